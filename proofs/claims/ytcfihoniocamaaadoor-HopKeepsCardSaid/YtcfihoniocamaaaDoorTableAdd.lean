/- table.Add: the walk. -/
import Derived.Test.YtcfihoniocamaaaDoorTableRight
import Derived.Deep.RegionLaw
namespace Go.Proofs.YtcfihoniocamaaaDoor
open Go.RowKit Go.Sort Go.Shelf
set_option linter.unusedVariables false

theorem clipCells {W' : World} {ao : Option Addr} {cap : Nat} {L : List Fld} (hr : ReadsF W' (.slice ao L.length cap) L) : ∀ b, ao = some b → ∀ j u, (L.flatMap fcells)[j]? = some u → W'.cell? (b.add j) = some u := by
  obtain ⟨ao', cap', e1, e2, e3, e4, e5⟩ := hr
  injection e1 with e6 e7 e8
  subst e6
  intro b hb j u hj
  have hlen := flat_len L
  have hj2 : j < L.length * 2 := by
    rcases Nat.lt_or_ge j (L.length * 2) with h' | h'
    · exact h'
    · rw [List.getElem?_eq_none (by omega)] at hj; cases hj
  obtain ⟨b0, off, e9, e10, e11⟩ := e5 (by omega)
  rw [hb] at e9
  cases e9
  obtain ⟨c1, c2⟩ := e11 (j / 2) (by omega)
  obtain ⟨d1, d2⟩ := flat_at L (j / 2) (by omega)
  have hadd : ((⟨b0, off, none⟩ : Addr).add j) = ⟨b0, off + j, none⟩ := by
    unfold Addr.add; split
    · rename_i e; subst e; rfl
    · rfl
  rw [hadd]
  rcases Nat.mod_two_eq_zero_or_one j with hm | hm
  · have : j = j / 2 * 2 := by omega
    rw [← this] at c1 d1
    rw [c1, ← d1]; exact hj
  · have : j = j / 2 * 2 + 1 := by omega
    rw [Nat.add_assoc, ← this] at c2
    rw [← this] at d2
    rw [c2, ← d2]; exact hj
theorem pairCells {W' : World} {g : Nat} {f : Fld} (h1 : W'.cell? ⟨g, 0, none⟩ = some (.string (S f.1))) (h2 : W'.cell? ⟨g, 1, none⟩ = some (.string (S f.2))) : ∀ j u, (fcells f)[j]? = some u → W'.cell? ((⟨g, 0, none⟩ : Addr).add j) = some u := by
  intro j u hj
  match j, hj with
  | 0, hj => simp [fcells] at hj; subst hj; simpa [Addr.add] using h1
  | 1, hj => simp [fcells] at hj; subst hj; simpa [Addr.add] using h2

/-- 'append(slices.Clip(l), f)' as a step of a region that draws: a new row. -/
theorem step_append_clip {ops : Array Oper} {o : Oper} {a : Act} {K : Act → World → Prop} {Q : Exit → Act → World → Prop} {E : Prop} (hgd : o.guard = none) (s x : Operand)
    (ho : o.op = .call { callee := .builtin .append, args := #[s, x], argTypes := #[22, 22] })
    (W : World) (ao : Option Addr) (cap : Nat) (L : List Fld) (f : Fld) (hr : ReadsF W (.slice ao L.length cap) L) (hs : a.eval s = .slice ao L.length L.length) (g : Nat) (hx : a.eval x = .slice (some ⟨g, 0, none⟩) 1 1)
    (hc1 : W.cell? ⟨g, 0, none⟩ = some (.string (S f.1))) (hc2 : W.cell? ⟨g, 1, none⟩ = some (.string (S f.2))) (hn : L.length ≤ 2199023255552)
    (h : ∀ v' w', OwnsF w' W.heap.size v' (L ++ [f]) → Below W.heap.size W w' → K (a.put o.dst v') w') : if Region.wanted o (yielded ops a.tmps) = true then Oper.wp Tryd.prog o a W K Q else E := by
  have hw : Region.wanted o (yielded ops a.tmps) = true := by simp [Region.wanted, hgd]
  rw [if_pos hw]
  obtain ⟨i0, hi, hz0, hz1, hz2⟩ := info_parts infoFld
  have hcells := clipCells hr
  obtain ⟨ao', cap', e1, e2, e3, e4, e5⟩ := hr
  injection e1 with e6 e7 e8
  subst e6
  have h1c : ∀ u ∈ fcells f, u.oneCell' = true := by intro u hu; simp [fcells] at hu; rcases hu with rfl | rfl <;> rfl
  cases ao with
  | some b =>
    obtain ⟨v', w', hrun, r1, r2⟩ := run_append_arg_grows (P := Tryd.prog) W 22 o.type 31 i0 (.agg #[.string ⟨#[]⟩, .string ⟨#[]⟩]) 2 32 Tryd.underlying22 hi hz0 hz1 hz2 rfl (by decide) b L.length L.length (L.flatMap fcells) (flat_len L) (hcells b rfl) ⟨g, 0, none⟩ 1 1 (fcells f) rfl (pairCells hc1 hc2) (by omega) (by unfold maxLen; omega) (by omega)
    unfold Oper.wp
    simp [execOp, ho, resolve, invoke, builtin, hs, hx, hrun, Result.andThen]
    exact h _ _ (by unfold OwnsF; simpa using r1) (Below.grown (Below.refl _ _) r2 (Nat.le_refl _) (fun k hk => by cases hk))
  | none =>
    have hz : L.length = 0 := by have := e4 rfl; omega
    obtain rfl : L = [] := List.length_eq_zero_iff.1 hz
    obtain ⟨v', w', hrun, r1, r2, _⟩ := run_append_own (P := Tryd.prog) W W.heap.size 22 o.type 31 i0 (.agg #[.string ⟨#[]⟩, .string ⟨#[]⟩]) 2 32 Tryd.underlying22 hi hz0 hz1 hz2 rfl (by decide) (.slice none 0 0) 0 [] (World.ownsRow_nil W _ _ _) ⟨g, 0, none⟩ 1 1 (fcells f) rfl (pairCells hc1 hc2) h1c (by decide) (by decide) (Nat.le_refl _)
    unfold Oper.wp
    simp [execOp, ho, resolve, invoke, builtin, hs, hx, hrun, Result.andThen]
    exact h _ _ (by unfold OwnsF; simpa using r1) (Below.grown (Below.refl _ _) r2 (Nat.le_refl _) (fun k hk => by cases hk))

end Go.Proofs.YtcfihoniocamaaaDoor
