/- Append of one pair to a row that the call has built: what else stays. -/
import Derived.Test.YtenflcaalckdfaaGreatDoorVv8
import Derived.Maps.AppendAt
namespace Go.Proofs.YtenflcaalckdfaaGreatDoor
open Go.RowKit
set_option linter.unusedVariables false

theorem wp_append_fld_at {ops : Array Oper} {rest : List Oper} {o : Oper} {a : Act} {Q : Exit → Act → World → Prop} (hgd : o.guard = none) (s x : Operand)
    (ho : o.op = .call { callee := .builtin .append, args := #[s, x], argTypes := #[66, 66] })
    (W : World) (B : Nat) (v : Value) (L : List Fld) (f : Fld) (hown : OwnsF W B v L) (hs : a.eval s = v) (g : Nat) (hx : a.eval x = .slice (some ⟨g, 0, none⟩) 1 1) (hg : g = W.heap.size)
    (hn : L.length ≤ 2199023255552) (hB : B ≤ W.heap.size)
    (h : ∀ v' w', OwnsF w' B v' (L ++ [f]) → Below B W w' → (∀ k, k < W.heap.size → v.ownBlock ≠ some k → w'.heap[k]? = W.heap[k]? ∧ v'.ownBlock ≠ some k) → wpList Tryz.prog ops Q rest (a.put o.dst v') w') : wpList Tryz.prog ops Q (o :: rest) a (W.alloc (.cells #[.string (S f.1), .string (S f.2)] 87)) := by
  subst hg
  obtain ⟨i0, hi, hz0, hz1, hz2⟩ := info_parts infoFld
  have hown' : (W.alloc (.cells #[.string (S f.1), .string (S f.2)] 87)).ownsRow B 87 2 v L.length (L.flatMap fcells) := World.ownsRow.alloc hown _
  refine Go.wpList_append_own_at _ hgd s x 66 ho B 87 i0 (.agg #[.string ⟨#[]⟩, .string ⟨#[]⟩]) 2 32 Tryz.underlying66 hi hz0 hz1 hz2 rfl (by decide) v L.length _ hs hown' ⟨W.heap.size, 0, none⟩ 1 1 (fcells f) hx rfl (two_cells W f) ?_ ?_ ?_ ?_ ?_
  · intro u hu; simp [fcells] at hu; rcases hu with rfl | rfl <;> rfl
  · unfold maxLen; omega
  · omega
  · simp; omega
  · intro v' w' h1 h2 _ h4
    refine h v' w' (by unfold OwnsF; simpa using h1) ?_ (fun k hk hne => ⟨?_, ?_⟩)
    · refine Below.grown (w := W.alloc (.cells #[.string (S f.1), .string (S f.2)] 87)) ((Below.refl _ _).alloc hB _) h2 (by simp; omega) ?_
      intro k hk
      exact (World.ownsRow.lt hown' k hk).1
    · rw [h2.block k (by simp; omega) (fun e => hne e.symm)]
      show (W.heap.push _)[k]? = _
      rw [Array.getElem?_push_lt hk, Array.getElem?_eq_getElem hk]
    · rcases h4 with h4 | h4
      · rw [h4]; exact hne
      · rw [h4]; simp; omega
end Go.Proofs.YtenflcaalckdfaaGreatDoor
