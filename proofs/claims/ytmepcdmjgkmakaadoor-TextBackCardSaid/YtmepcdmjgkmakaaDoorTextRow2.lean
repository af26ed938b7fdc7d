/- Append of a row of texts to a row of texts that the call has built. -/
import Derived.Test.YtmepcdmjgkmakaaDoorOwnRow
namespace Go.Proofs.YtmepcdmjgkmakaaDoor
open Go.RowKit
set_option linter.unusedVariables false

/-- 'out = append(out, l...)', l texts in a block. -/
theorem wp_append_texts {ops : Array Oper} {rest : List Oper} {o : Oper} {a : Act} {Q : Exit → Act → World → Prop} (hgd : o.guard = none) (s x : Operand)
    (ho : o.op = .call { callee := .builtin .append, args := #[s, x], argTypes := #[28, 28] })
    (W : World) (B : Nat) (v : Value) (L : List (List UInt8)) (M : List (List UInt8)) (hown : Owns W B v L) (hs : a.eval s = v) (g cap : Nat) (hx : a.eval x = .slice (some ⟨g, 0, none⟩) M.length cap)
    (hc : ∀ j (h : j < M.length), W.cell? ⟨g, j, none⟩ = some (.string (S M[j])))
    (hn : L.length + M.length ≤ 1099511627776) (hB : B ≤ W.heap.size)
    (h : ∀ v' w', Owns w' B v' (L ++ M) → Below B W w' → W.grownBy w' v.ownBlock → wpList Tryd.prog ops Q rest (a.put o.dst v') w') : wpList Tryd.prog ops Q (o :: rest) a W := by
  obtain ⟨i0, hi, hz0, hz1, hz2⟩ := info_parts infoStr
  have hown' : W.ownsRow B 9 1 v L.length (L.map fun x => .string (S x)) := hown
  refine wpList_append_own _ hgd s x 28 ho B 9 i0 (.string ⟨#[]⟩) 1 16 Tryd.underlying28 hi hz0 hz1 hz2 rfl (by decide) v L.length _ hs hown' ⟨g, 0, none⟩ M.length cap (M.map fun x => .string (S x)) hx (by simp) ?_ ?_ ?_ ?_ ?_ ?_
  · intro j u hj
    have hjl : j < M.length := by
      rcases Nat.lt_or_ge j M.length with h' | h'
      · exact h'
      · rw [List.getElem?_eq_none (by rw [List.length_map]; exact h')] at hj; cases hj
    rw [List.getElem?_map, List.getElem?_eq_getElem hjl] at hj
    simp only [Option.map_some, Option.some.injEq] at hj
    subst hj
    have hadd : ((⟨g, 0, none⟩ : Addr).add j) = ⟨g, j, none⟩ := by
      unfold Addr.add; split
      · rename_i e; subst e; rfl
      · simp
    rw [hadd]
    exact hc j hjl
  · intro u hu
    obtain ⟨x, _, rfl⟩ := List.mem_map.1 hu
    rfl
  · unfold maxLen; omega
  · omega
  · exact hB
  · intro v' w' h1 h2 h3
    exact h v' w' (by unfold Owns; simpa using h1) (Below.grown (Below.refl _ _) h2 hB (fun k hk => (World.ownsRow.lt hown' k hk).1)) h2
end Go.Proofs.YtmepcdmjgkmakaaDoor
