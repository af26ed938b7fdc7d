/- Laws of what a reference tells: plain words. -/
import Derived.Test.YtgjemgilanhdiaaDoorRt13
import Derived.Test.YtgjemgilanhdiaaDoorRt16
namespace Go.Proofs.YtgjemgilanhdiaaDoor
set_option linter.unusedVariables false

theorem head_of {p : List UInt8} (h : Lib.hasPrefix p [47] = true) : ∃ t, p = 47 :: t := by
  unfold Lib.hasPrefix at h
  rw [List.isPrefixOf_iff_prefix] at h
  obtain ⟨t, rfl⟩ := h
  exact ⟨t, rfl⟩
theorem head_to (t : List UInt8) : Lib.hasPrefix (47 :: t) [47] = true := by simp [Lib.hasPrefix, List.isPrefixOf]
theorem idx_neg {p : List UInt8} {c : UInt8} : Lib.indexByte p c < 0 ↔ c ∉ p := by
  have h0 := Lib.indexByte_ge p c
  constructor
  · intro h hm
    obtain ⟨i, hi, hi2⟩ := List.getElem_of_mem hm
    exact Lib.indexByte_none (by omega : Lib.indexByte p c = -1) i (by rw [List.getElem?_eq_getElem hi, hi2])
  · intro h
    refine Int.lt_of_not_ge fun hge => ?_
    obtain ⟨n, hn⟩ : ∃ n : Nat, Lib.indexByte p c = n := ⟨(Lib.indexByte p c).toNat, by omega⟩
    exact h (List.mem_of_getElem? (Lib.indexByte_some hn).1)

/-- What a right address is made of. -/
structure RightF (a : Bool) (h : List UInt8) (n : Int) (p : List UInt8) (q : Bool) (y : List UInt8) : Prop where
  pb : ∀ c ∈ p, badU c = false
  yb : ∀ c ∈ y, badU c = false
  pq : (63 : UInt8) ∉ p
  qy : q = true ∨ y = []
  n0 : 0 ≤ n
  n1 : n ≤ 65535
  len : (writeL a h n.toNat p q y).length ≤ 500
  host : (if a then hostL h && Lib.hasPrefix p [47] else h.isEmpty && decide (n = 0) && !Lib.hasPrefix p [47, 47] && !decide (0 ≤ Lib.indexByte (cut1 p 47).1 58)) = true
theorem right_iff (a : Bool) (h : List UInt8) (n : Int) (p : List UInt8) (q : Bool) (y : List UInt8) : rightU a h n p q y = true ↔ RightF a h n p q y := by
  unfold rightU
  simp only [Bool.and_eq_true, Bool.not_eq_true', decide_eq_true_eq, decide_eq_false_iff_not]
  constructor
  · rintro ⟨⟨⟨⟨⟨⟨⟨h1, h2⟩, h3⟩, h4⟩, h5⟩, h6⟩, h7⟩, h8⟩
    refine ⟨?_, ?_, idx_neg.1 (by omega), ?_, h5, h6, h7, h8⟩
    · simpa using h1
    · simpa using h2
    · simpa using h4
  · rintro ⟨h1, h2, h3, h4, h5, h6, h7, h8⟩
    refine ⟨⟨⟨⟨⟨⟨⟨?_, ?_⟩, ?_⟩, ?_⟩, h5⟩, h6⟩, h7⟩, h8⟩
    · simpa using h1
    · simpa using h2
    · have := idx_neg.2 h3; omega
    · simpa using h4
theorem ok_iff (u : UU) : u.ok = true ↔ RightF u.a u.h u.n u.p u.q u.y := right_iff ..

theorem writeL_le {a : Bool} {h : List UInt8} {n : Nat} {p p' : List UInt8} {q : Bool} {y : List UInt8} (hp : p'.length ≤ p.length) : (writeL a h n p' q y).length ≤ (writeL a h n p q y).length := by
  unfold writeL
  simp only [List.length_append]
  omega
theorem not_bad_slash : badU 47 = false := by rfl
/-- The path cleaned: right as before. -/
theorem clean_right {h : List UInt8} {n : Int} {p : List UInt8} {q : Bool} {y : List UInt8} (hr : RightF true h n p q y) : RightF true h n (cleanL p) q y := by
  have hh := hr.host
  simp only [if_true, Bool.and_eq_true] at hh
  obtain ⟨t, rfl⟩ := head_of hh.2
  obtain ⟨x, hx⟩ := clean_head t
  refine ⟨fun c hc => ?_, hr.yb, fun hc => ?_, hr.qy, hr.n0, hr.n1, Nat.le_trans (writeL_le (cleanL_len _)) hr.len, ?_⟩
  · rcases cleanL_mem hc with h | rfl
    · exact hr.pb c h
    · exact not_bad_slash
  · rcases cleanL_mem hc with h | h
    · exact hr.pq h
    · cases h
  · rw [hx]; simp only [if_true, head_to, Bool.and_true]; exact hh.1
theorem nil_ok : UU.nil.ok = true := by rfl

theorem resolve_nil (u : UU) (h1 : u.ok = true) (h2 : u.a = true) : resolve u UU.nil = (u, 0) := by
  obtain ⟨a, h, n, p, q, y⟩ := u
  obtain rfl : a = true := h2
  have ho : resOut ⟨true, h, n, p, q, y⟩ UU.nil = ⟨true, h, n, p, q, y⟩ := by simp [resOut, UU.nil, resPath]
  unfold resolve
  rw [h1, nil_ok, ho]
  simp [h1]
theorem abs_path (u : UU) (h1 : u.ok = true) (h2 : u.a = true) : ∃ t, u.p = 47 :: t := by
  have := ((ok_iff u).1 h1).host
  rw [h2] at this
  simp only [if_true, Bool.and_eq_true] at this
  exact head_of this.2
theorem bAt_head (t : List UInt8) : bAt (47 :: t) 0 = 47 := rfl
theorem resolve_self (u : UU) (h1 : u.ok = true) (h2 : u.a = true) : resolve u u = (⟨true, u.h, u.n, cleanL u.p, u.q, u.y⟩, 0) := by
  obtain ⟨t, ht⟩ := abs_path u h1 h2
  obtain ⟨a, h, n, p, q, y⟩ := u
  obtain rfl : a = true := h2
  obtain rfl : p = 47 :: t := ht
  have ho : resOut ⟨true, h, n, 47 :: t, q, y⟩ ⟨true, h, n, 47 :: t, q, y⟩ = ⟨true, h, n, cleanL (47 :: t), q, y⟩ := by simp [resOut, resPath, bAt_head]
  have hk : UU.ok ⟨true, h, n, cleanL (47 :: t), q, y⟩ = true := (ok_iff _).2 (clean_right ((ok_iff _).1 h1))
  unfold resolve
  rw [h1, ho]
  simp only [hk, Bool.and_true, if_true]
theorem resolve_query (u : UU) (h1 : u.ok = true) (h2 : u.a = true) (l : List UInt8) :
    resolve u ⟨false, [], 0, [], true, l⟩ = if UU.ok ⟨false, [], 0, [], true, l⟩ then (if UU.ok ⟨true, u.h, u.n, u.p, true, l⟩ then (⟨true, u.h, u.n, u.p, true, l⟩, 0) else (UU.nil, 2)) else (UU.nil, 1) := by
  have ho : resOut u ⟨false, [], 0, [], true, l⟩ = ⟨true, u.h, u.n, u.p, true, l⟩ := by simp [resOut, resPath]
  unfold resolve
  rw [h1, h2, ho]
  simp
end Go.Proofs.YtgjemgilanhdiaaDoor
