/- A row of pairs that came in. -/
import Derived.Test.YtpapefegfghakaaDoorPairRow
import Derived.Test.YtpapefegfghakaaDoorFrame
namespace Go.Proofs.YtpapefegfghakaaDoor
open Go.RowKit Go.Sort Go.Shelf
set_option linter.unusedVariables false

/-- A row of fields that came in. -/
theorem reads_inF {w : World} {v : Value} {L : List (List Value)} (hv : RowsIn w 2 v L ∧ ∀ c ∈ L, AllSh [.str, .str] c) : ∃ xs, ReadsF w v xs ∧ ∀ f ∈ xs, f.1.length ≤ 9223372036854775807 ∧ f.2.length ≤ 9223372036854775807 := by
  obtain ⟨hrow, hsh⟩ := hv
  obtain ⟨xs, rfl, hxs⟩ := decode fcells (R := fun f => f.1.length ≤ 9223372036854775807 ∧ f.2.length ≤ 9223372036854775807) (fun c h => by
    obtain ⟨_, _, rfl, ⟨s, rfl, hs⟩, _, _, rfl, ⟨t, rfl, ht⟩, rfl⟩ := h
    obtain ⟨l, rfl⟩ := S_of s
    obtain ⟨m, rfl⟩ := S_of t
    exact ⟨(l, m), rfl, by rw [S_size] at hs; exact hs, by rw [S_size] at ht; exact ht⟩) L hsh
  obtain ⟨a, len, cap, rfl, hl, hm, hlen, ⟨_, hno⟩, hcell⟩ := hrow
  rw [List.length_map] at hlen
  subst hlen
  refine ⟨xs, ⟨a, cap, rfl, hl, hm, hno, fun h0 => ?_⟩, hxs⟩
  obtain ⟨b, off, e1, e2, e3⟩ := hcell h0 (by omega)
  refine ⟨b, off, e1, e2, fun j hj => ?_⟩
  have h0 := e3 j 0 hj (by omega)
  have h1 := e3 j 1 hj (by omega)
  rw [Nat.add_zero] at h0
  rw [h0, Nat.add_assoc, h1]
  simp [List.getD, hj, fcells]

end Go.Proofs.YtpapefegfghakaaDoor
