/- What is written is read again: references. Plain words. -/
import Derived.Test.YtgjemgilanhdiaaDoorRt20
namespace Go.Proofs.YtgjemgilanhdiaaDoor
set_option linter.unusedVariables false

theorem low58 (c : UInt8) (h : lowB c = 58) : c = 58 := by
  have := all_bytes (p := fun c => lowB c = 58 → c = 58) (by decide +kernel) c h
  exact this
theorem http_at {W : List UInt8} (h : httpB W = true) : 7 ≤ W.length ∧ ∀ i, i < 7 → (W[i]?).map lowB = httpL[i]? := by
  unfold httpB at h
  simp only [Bool.and_eq_true, decide_eq_true_eq, beq_iff_eq] at h
  refine ⟨h.1, fun i hi => ?_⟩
  have := congrArg (fun l : List UInt8 => l[i]?) h.2
  simp only [lower, List.getElem?_map, List.getElem?_take_of_lt hi] at this
  exact this
theorem write_back_rel (u : UU) (hok : u.ok = true) (ha : u.a = false) : parseL (writeL u.a u.h u.n.toNat u.p u.q u.y) = (u, 0) := by
  have hr := (ok_iff u).1 hok
  obtain ⟨a, h, n, p, q, y⟩ := u
  obtain rfl : a = false := ha
  have hc := hr.host
  simp only [Bool.false_eq_true, if_false, Bool.and_eq_true, decide_eq_true_eq, Bool.not_eq_true'] at hc
  obtain ⟨⟨⟨c1, c2⟩, c3⟩, c4⟩ := hc
  obtain rfl : h = [] := by simpa using c1
  obtain rfl : n = 0 := c2
  rw [colon_eq, decide_eq_false_iff_not] at c4
  have hcut := cut_back p y q hr.pq hr.qy
  have hlen := hr.len
  have hW : writeL false [] (0 : Int).toNat p q y = p ++ (if q then 63 :: y else []) := by unfold writeL; simp
  simp only at hlen ⊢
  rw [hW] at hlen ⊢
  have hno : httpB (p ++ (if q then 63 :: y else [])) = false := by
    cases hb : httpB (p ++ (if q then 63 :: y else [])) with
    | false => rfl
    | true =>
      exfalso
      obtain ⟨h7, hat⟩ := http_at hb
      by_cases h5 : 5 ≤ p.length
      · have e4 := hat 4 (by omega)
        rw [List.getElem?_append_left (by omega), List.getElem?_eq_getElem (by omega)] at e4
        have hp4 : p[4] = 58 := low58 _ (Option.some.inj e4)
        have g58 := Lib.indexByte_ge p 58
        have n58 : Lib.indexByte p 58 ≠ -1 := fun e => Lib.indexByte_none e 4 (by rw [List.getElem?_eq_getElem (by omega), hp4])
        obtain ⟨i, hi⟩ : ∃ i : Nat, Lib.indexByte p 58 = i := ⟨(Lib.indexByte p 58).toNat, by omega⟩
        have hi4 : i ≤ 4 := Nat.le_of_not_lt fun hlt => (Lib.indexByte_some hi).2 4 hlt (by rw [List.getElem?_eq_getElem (by omega), hp4])
        apply c4
        refine ⟨by omega, ?_⟩
        by_cases h47 : Lib.indexByte p 47 < 0
        · exact .inl h47
        · right
          obtain ⟨j, hj⟩ : ∃ j : Nat, Lib.indexByte p 47 = j := ⟨(Lib.indexByte p 47).toNat, by omega⟩
          rw [hi, hj]
          refine Int.lt_of_not_ge fun hle => ?_
          have hj4 : j ≤ 4 := by omega
          have ej := hat j (by omega)
          rw [List.getElem?_append_left (by omega), (Lib.indexByte_some hj).1] at ej
          rcases (by omega : j = 0 ∨ j = 1 ∨ j = 2 ∨ j = 3 ∨ j = 4) with rfl | rfl | rfl | rfl | rfl <;> exact absurd ej (by decide)
      · cases q with
        | false => simp at h7; omega
        | true =>
          have e := hat p.length (by omega)
          rw [List.getElem?_append_right (Nat.le_refl _), Nat.sub_self] at e
          simp only [if_true, List.getElem?_cons_zero, Option.map_some] at e
          rcases (by omega : p.length = 0 ∨ p.length = 1 ∨ p.length = 2 ∨ p.length = 3 ∨ p.length = 4) with h | h | h | h | h <;> (rw [h] at e; exact absurd e (by decide))
  have hrel : relOf (p ++ (if q then 63 :: y else [])) = ⟨false, [], 0, p, q, y⟩ := by unfold relOf; rw [hcut]
  unfold parseL
  rw [if_neg (by omega), hno, if_neg (by simp), hrel, hok]
  rfl
/-- What is written is read again. -/
theorem write_back (u : UU) (hok : u.ok = true) : parseL (writeL u.a u.h u.n.toNat u.p u.q u.y) = (u, 0) := by
  cases ha : u.a with
  | true => rw [← ha]; exact write_back_abs u hok ha
  | false => rw [← ha]; exact write_back_rel u hok ha
end Go.Proofs.YtgjemgilanhdiaaDoor
