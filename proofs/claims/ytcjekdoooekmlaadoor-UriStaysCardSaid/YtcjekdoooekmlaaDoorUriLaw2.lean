/- Laws of what is resolved: plain words. -/
import Derived.Test.YtcjekdoooekmlaaDoorUriLaw
namespace Go.Proofs.YtcjekdoooekmlaaDoor
set_option linter.unusedVariables false

theorem lastL_nonneg {l : List UInt8} {c : UInt8} (h : c ∈ l) : 0 ≤ lastL l c := by
  have := lastL_spec c l.reverse
  rw [List.reverse_reverse] at this
  rcases this with ⟨h1, h2⟩ | ⟨i, h1, _⟩
  · exact absurd (by simpa using h) h2
  · omega

theorem resPath_clean (b u : UU) (hb : b.ok = true) (ha : b.a = true) (hp : u.p ≠ []) : ∃ t, resPath b u = cleanL (47 :: t) := by
  unfold resPath
  rw [if_neg hp]
  split
  · rename_i h
    cases hu : u.p with
    | nil => exact absurd hu hp
    | cons c t =>
      rw [hu, bAt_eq (by simp)] at h
      simp only [List.getElem_cons_zero] at h
      refine ⟨t, ?_⟩
      rw [show c = 47 from UInt8.toNat.inj (by show c.toNat = 47; omega)]
  · obtain ⟨t, ht⟩ := abs_path b hb ha
    have h0 := lastL_nonneg (l := b.p) (c := 47) (by rw [ht]; simp)
    obtain ⟨k, hk⟩ : ∃ k : Nat, (lastL b.p 47 + 1).toNat = k + 1 := ⟨(lastL b.p 47).toNat, by omega⟩
    rw [hk, ht]
    exact ⟨t.take k ++ u.p, by simp⟩

theorem resolve_bad (b u : UU) (h : (resolve b u).2 ≠ 0) : (resolve b u).1 = UU.nil := by
  unfold resolve at h ⊢
  split
  · rename_i h1
    rw [if_pos h1] at h
    split
    · rename_i h2; rw [if_pos h2] at h; exact absurd rfl h
    · rfl
  · rfl
theorem resolve_good (b u : UU) (h : (resolve b u).2 = 0) : (resolve b u).1.ok = true ∧ (resolve b u).1.a = true ∧ (u.p ≠ [] → cleanL (resolve b u).1.p = (resolve b u).1.p) := by
  unfold resolve at h ⊢
  split at h
  · rename_i h1
    rw [if_pos h1]
    split at h
    · rename_i h2
      rw [if_pos h2]
      refine ⟨h2, rfl, fun hp => ?_⟩
      simp only [Bool.and_eq_true] at h1
      obtain ⟨t, ht⟩ := resPath_clean b u h1.1.1 h1.2 hp
      show cleanL (resPath b u) = resPath b u
      rw [ht, clean_twice]
    · cases h
  · cases h
theorem resolve_again (o a : UU) (h1 : a.ok = true) (h2 : a.a = true) : resolve o a = if o.ok && o.a then (⟨true, a.h, a.n, cleanL a.p, a.q, a.y⟩, 0) else (UU.nil, 1) := by
  obtain ⟨t, ht⟩ := abs_path a h1 h2
  obtain ⟨aa, h, n, p, q, y⟩ := a
  obtain rfl : aa = true := h2
  obtain rfl : p = 47 :: t := ht
  have ho : resOut o ⟨true, h, n, 47 :: t, q, y⟩ = ⟨true, h, n, cleanL (47 :: t), q, y⟩ := by simp [resOut, resPath, bAt_head]
  have hk : UU.ok ⟨true, h, n, cleanL (47 :: t), q, y⟩ = true := (ok_iff _).2 (clean_right ((ok_iff _).1 h1))
  unfold resolve
  rw [h1, ho]
  simp only [hk, Bool.and_true, if_true]
theorem resolve_small (b u : UU) (hb : b.small) (hu : u.small) (h : (resolve b u).2 = 0) : (resolve b u).1 = resOut b u := by
  unfold resolve at h ⊢
  split at h
  · rename_i h1
    rw [if_pos h1]
    split at h
    · rename_i h2; rw [if_pos h2]
    · cases h
  · cases h
/-- A right address is small enough for the walks. -/
theorem ok_small (u : UU) (h : u.ok = true) : u.p.length ≤ 500 ∧ u.y.length ≤ 500 := by
  have h1 := (ok_iff u).1 h
  have := h1.len
  unfold writeL at this
  simp only [List.length_append] at this
  refine ⟨by omega, ?_⟩
  rcases h1.qy with h2 | h2
  · rw [h2] at this; simp only [if_true, List.length_cons] at this; omega
  · rw [h2]; simp
theorem ok_host (u : UU) (h : u.ok = true) (ha : u.a = true) : u.h.length ≤ 100 := by
  have h1 := ((ok_iff u).1 h).host
  rw [ha] at h1
  simp only [if_true, Bool.and_eq_true, hostL, decide_eq_true_eq] at h1
  exact h1.1.1.2
end Go.Proofs.YtcjekdoooekmlaaDoor
