/- Rows of texts that a call has built: what they hold, append of one text. -/
import Derived.Test.YtgjemgilanhdiaaDoorRt2
import Derived.Laws.AppendOwn
namespace Go.Proofs.YtgjemgilanhdiaaDoor
open Go.RowKit
set_option linter.unusedVariables false

theorem infoStr : (Tryd.prog.info? 9).map (fun i => (i.zero, i.size, i.bytes)) = some (some (.string ⟨#[]⟩), 1, 16) := by kernel_rfl

/-- The slice v, made by the call (its block is B or later), holds these texts. -/
def Owns (W : World) (B : Nat) (v : Value) (L : List (List UInt8)) : Prop := W.ownsRow B 9 1 v L.length (L.map fun x => .string (S x))

theorem Owns.nil (W : World) (B : Nat) : Owns W B (.slice none 0 0) [] := World.ownsRow_nil _ _ _ _
theorem Owns.below {W W' : World} {B : Nat} {v : Value} {L : List (List UInt8)} (h : Owns W B v L) (hb : Below W.heap.size W W') : Owns W' B v L := by
  obtain ⟨h1, h2⟩ := h
  refine ⟨h1, ?_⟩
  rcases h2 with h2 | ⟨g, cap, cur, h3, h4, h5, h6⟩
  · exact .inl h2
  · refine .inr ⟨g, cap, cur, h3, h4, ?_, h6⟩
    have hg : g < W.heap.size := by
      rcases Nat.lt_or_ge g W.heap.size with h | h
      · exact h
      · rw [Array.getElem?_eq_none h] at h5; cases h5
    rw [hb.block g hg]
    exact h5
theorem Owns.shape {W : World} {B : Nat} {v : Value} {L : List (List UInt8)} (h : Owns W B v L) : ∃ ao cap, v = .slice ao L.length cap ∧ L.length ≤ cap ∧ cap ≤ maxLen ∧ (∀ a, ao = some a → ∃ g, a = ⟨g, 0, none⟩ ∧ B ≤ g ∧ g < W.heap.size) ∧ (ao = none → L = []) := by
  obtain ⟨h1, h2⟩ := h
  rcases h2 with ⟨h2, h3⟩ | ⟨g, cap, cur, h3, h4, h5, h6, h7, h8⟩
  · refine ⟨none, 0, by rw [h2, h3], by omega, by decide, (fun a ha => by cases ha), fun _ => by
      cases L with
      | nil => rfl
      | cons a t => simp at h3⟩
  · refine ⟨_, cap, h3, h6, h7, (fun a ha => ⟨g, by cases ha; rfl, h4, ?_⟩), (fun h => by cases h)⟩
    rcases Nat.lt_or_ge g W.heap.size with h | h
    · exact h
    · rw [Array.getElem?_eq_none h] at h5; cases h5
/-- Element k. -/
theorem Owns.at {W : World} {B : Nat} {v : Value} {L : List (List UInt8)} (h : Owns W B v L) (k : Nat) (hk : k < L.length) : ∃ g cap, v = .slice (some ⟨g, 0, none⟩) L.length cap ∧ L.length ≤ cap ∧ cap ≤ maxLen ∧ g < W.heap.size ∧ ∀ j (hj : j < L.length), W.cell? ⟨g, j, none⟩ = some (.string (S L[j])) := by
  obtain ⟨h1, h2⟩ := h
  rcases h2 with ⟨h2, h3⟩ | ⟨g, cap, cur, h3, h4, h5, h6, h7, h8, h9⟩
  · omega
  · refine ⟨g, cap, h3, h6, h7, ?_, fun j hj => ?_⟩
    · rcases Nat.lt_or_ge g W.heap.size with h | h
      · exact h
      · rw [Array.getElem?_eq_none h] at h5; cases h5
    · rw [Joins.cell_of_block h5]
      have e := congrArg (fun l => l[j]?) h9
      simp only [List.getElem?_take] at e
      rw [if_pos (by omega)] at e
      simp only [Array.getElem?_toList] at e
      rw [e]
      simp [hj]

/-- '[]string{}': made, empty. -/
theorem Owns.made (W : World) (B : Nat) (hB : B ≤ W.heap.size) : Owns (W.alloc (.cells #[] 9)) B (.slice (some ⟨W.heap.size, 0, none⟩) 0 0) [] :=
  ⟨rfl, .inr ⟨W.heap.size, 0, #[], rfl, hB, by show (W.heap.push _)[W.heap.size]? = _; rw [Array.getElem?_push_size], Nat.le_refl _, by decide, rfl, rfl⟩⟩

end Go.Proofs.YtgjemgilanhdiaaDoor
