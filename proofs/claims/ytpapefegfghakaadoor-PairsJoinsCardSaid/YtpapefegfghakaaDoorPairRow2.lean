/- Append of a row of pairs to a row that the call has built. -/
import Derived.Test.YtpapefegfghakaaDoorPairRow
import Derived.Laws.AppendOwnNone
namespace Go.Proofs.YtpapefegfghakaaDoor
open Go.RowKit Go.Sort Go.Shelf
set_option linter.unusedVariables false

theorem clipCells {W' : World} {ao : Option Addr} {cap : Nat} {L : List Fld} (hr : ReadsF W' (.slice ao L.length cap) L) : ∀ b, ao = some b → ∀ j u, (L.flatMap fcells)[j]? = some u → W'.cell? (b.add j) = some u := by
  obtain ⟨ao', cap', e1, e2, e3, e4, e5⟩ := hr
  injection e1 with e6 e7 e8
  subst e6
  intro b hb j u hj
  have hlen := flat_len L
  have hj2 : j < L.length * 2 := by
    rcases Nat.lt_or_ge j (L.length * 2) with h' | h'
    · exact h'
    · rw [List.getElem?_eq_none (by omega)] at hj; cases hj
  obtain ⟨b0, off, e9, e10, e11⟩ := e5 (by omega)
  rw [hb] at e9
  cases e9
  obtain ⟨c1, c2⟩ := e11 (j / 2) (by omega)
  obtain ⟨d1, d2⟩ := flat_at L (j / 2) (by omega)
  have hadd : ((⟨b0, off, none⟩ : Addr).add j) = ⟨b0, off + j, none⟩ := by
    unfold Addr.add; split
    · rename_i e; subst e; rfl
    · rfl
  rw [hadd]
  rcases Nat.mod_two_eq_zero_or_one j with hm | hm
  · have : j = j / 2 * 2 := by omega
    rw [← this] at c1 d1
    rw [c1, ← d1]; exact hj
  · have : j = j / 2 * 2 + 1 := by omega
    rw [Nat.add_assoc, ← this] at c2
    rw [← this] at d2
    rw [c2, ← d2]; exact hj
theorem pairCells {W' : World} {g : Nat} {f : Fld} (h1 : W'.cell? ⟨g, 0, none⟩ = some (.string (S f.1))) (h2 : W'.cell? ⟨g, 1, none⟩ = some (.string (S f.2))) : ∀ j u, (fcells f)[j]? = some u → W'.cell? ((⟨g, 0, none⟩ : Addr).add j) = some u := by
  intro j u hj
  match j, hj with
  | 0, hj => simp [fcells] at hj; subst hj; simpa [Addr.add] using h1
  | 1, hj => simp [fcells] at hj; subst hj; simpa [Addr.add] using h2

/-- 'append([]api.Pair{}, l[:n]...)'. -/
theorem wp_append_row {ops : Array Oper} {rest : List Oper} {o : Oper} {a : Act} {Q : Exit → Act → World → Prop} (hgd : o.guard = none) (s x : Operand)
    (ho : o.op = .call { callee := .builtin .append, args := #[s, x], argTypes := #[22, 22] })
    (W : World) (B : Nat) (v : Value) (L0 : List Fld) (hown : OwnsF W B v L0) (hs : a.eval s = v) (ao : Option Addr) (cap : Nat) (L : List Fld) (hr : ReadsF W (.slice ao L.length cap) L) (hx : a.eval x = .slice ao L.length cap)
    (hn : L0.length + L.length ≤ 2199023255552) (hB : B ≤ W.heap.size)
    (h : ∀ v' w', OwnsF w' B v' (L0 ++ L) → Below B W w' → wpList Tryd.prog ops Q rest (a.put o.dst v') w') : wpList Tryd.prog ops Q (o :: rest) a W := by
  obtain ⟨i0, hi, hz0, hz1, hz2⟩ := info_parts infoFld
  have hcells := clipCells hr
  obtain ⟨ao', cap', e1, e2, e3, e4, e5⟩ := hr
  injection e1 with e6 e7 e8
  subst e6
  subst e8
  have hown' : W.ownsRow B 24 2 v L0.length (L0.flatMap fcells) := hown
  cases ao with
  | none =>
    have hc0 := e4 rfl
    have hz : L.length = 0 := by omega
    obtain rfl : L = [] := List.length_eq_zero_iff.1 hz
    subst hc0
    refine wpList_append_own_none hgd s x 22 ho B 24 i0 2 Tryd.underlying22 hi v L0.length _ hs hown' hx ?_
    subst hs
    exact h _ _ (by rw [List.append_nil]; exact hown) (Below.refl _ _)
  | some ad =>
    refine wpList_append_own _ hgd s x 22 ho B 24 i0 (.agg #[.string ⟨#[]⟩, .string ⟨#[]⟩]) 2 32 Tryd.underlying22 hi hz0 hz1 hz2 rfl (by decide) v L0.length _ hs hown' ad L.length cap (L.flatMap fcells) hx (flat_len L) (hcells ad rfl) (flat_one L) ?_ ?_ hB ?_
    · unfold maxLen; omega
    · omega
    · intro v' w' h1 h2 h3
      refine h v' w' (by unfold OwnsF; simpa using h1) ?_
      exact Below.grown (Below.refl _ _) h2 hB (fun k hk => (World.ownsRow.lt hown' k hk).1)
end Go.Proofs.YtpapefegfghakaaDoor
