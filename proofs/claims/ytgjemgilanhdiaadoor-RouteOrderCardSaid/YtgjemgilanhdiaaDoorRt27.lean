/- Rows of routes (three texts each): read, built by the call, appended to. -/
import Derived.Test.YtgjemgilanhdiaaDoorRt26
import Derived.ArgAppend
import Derived.Maps.AppendAt
import Derived.Laws.AppendOwnNone
namespace Go.Proofs.YtgjemgilanhdiaaDoor
open Go.RowKit
set_option linter.unusedVariables false

abbrev Wrd := List UInt8 × List UInt8 × List UInt8
def wcells (f : Wrd) : List Value := [.string (S f.1), .string (S f.2.1), .string (S f.2.2)]
theorem wflat_len : ∀ L : List Wrd, (L.flatMap wcells).length = L.length * 3
  | [] => rfl
  | f :: L => by rw [List.flatMap_cons, List.length_append, wflat_len L]; simp [wcells]; omega
theorem wflat_at : ∀ (L : List Wrd) (j : Nat) (h : j < L.length), (L.flatMap wcells)[j * 3]? = some (.string (S L[j].1)) ∧ (L.flatMap wcells)[j * 3 + 1]? = some (.string (S L[j].2.1)) ∧ (L.flatMap wcells)[j * 3 + 2]? = some (.string (S L[j].2.2))
  | [], j, h => by simp at h
  | f :: L, 0, h => by simp [wcells]
  | f :: L, j + 1, h => by
    obtain ⟨h1, h2, h3⟩ := wflat_at L j (by simpa using h)
    rw [List.flatMap_cons]
    refine ⟨?_, ?_, ?_⟩
    · rw [List.getElem?_append_right (by simp [wcells]; omega), show (j + 1) * 3 - (wcells f).length = j * 3 by simp [wcells]; omega, h1]; rfl
    · rw [List.getElem?_append_right (by simp [wcells]; omega), show (j + 1) * 3 + 1 - (wcells f).length = j * 3 + 1 by simp [wcells]; omega, h2]; rfl
    · rw [List.getElem?_append_right (by simp [wcells]; omega), show (j + 1) * 3 + 2 - (wcells f).length = j * 3 + 2 by simp [wcells]; omega, h3]; rfl
theorem wflat_one (L : List Wrd) : ∀ u ∈ L.flatMap wcells, u.oneCell' = true := by
  intro u hu
  obtain ⟨f, _, hf⟩ := List.mem_flatMap.1 hu
  simp [wcells] at hf
  rcases hf with rfl | rfl | rfl <;> rfl

theorem infoWrd : (Tryd.prog.info? 30).map (fun i => (i.zero, i.size, i.bytes)) = some (some (.agg #[.string ⟨#[]⟩, .string ⟨#[]⟩, .string ⟨#[]⟩]), 3, 48) := by kernel_rfl

/-- The slice v, made by the call (its block is B or later), holds these words. -/
def OwnsW (W : World) (B : Nat) (v : Value) (L : List Wrd) : Prop := W.ownsRow B 30 3 v L.length (L.flatMap wcells)
/-- The slice v reads as these words. -/
def ReadsW (W : World) (v : Value) (L : List Wrd) : Prop :=
  ∃ ao cap, v = .slice ao L.length cap ∧ L.length ≤ cap ∧ cap ≤ maxLen ∧ (ao = none → cap = 0) ∧ (0 < L.length → ∃ b off, ao = some ⟨b, off, none⟩ ∧ b < W.heap.size ∧
    ∀ j (h : j < L.length), W.cell? ⟨b, off + j * 3, none⟩ = some (.string (S L[j].1)) ∧ W.cell? ⟨b, off + j * 3 + 1, none⟩ = some (.string (S L[j].2.1)) ∧ W.cell? ⟨b, off + j * 3 + 2, none⟩ = some (.string (S L[j].2.2)))
theorem OwnsW.nil (W : World) (B : Nat) : OwnsW W B (.slice none 0 0) [] := World.ownsRow_nil _ _ _ _
theorem ReadsW.nil (W : World) : ReadsW W (.slice none 0 0) [] := ⟨none, 0, rfl, Nat.le_refl _, by decide, fun _ => rfl, fun h => by simp at h⟩
theorem OwnsW.made (W : World) (B : Nat) (hB : B ≤ W.heap.size) : OwnsW (W.alloc (.cells #[] 30)) B (.slice (some ⟨W.heap.size, 0, none⟩) 0 0) [] :=
  ⟨rfl, .inr ⟨W.heap.size, 0, #[], rfl, hB, by show (W.heap.push _)[W.heap.size]? = _; rw [Array.getElem?_push_size], Nat.le_refl _, by decide, rfl, rfl⟩⟩
theorem OwnsW.below {W W' : World} {B : Nat} {v : Value} {L : List Wrd} (h : OwnsW W B v L) (hb : Below W.heap.size W W') : OwnsW W' B v L := by
  obtain ⟨h1, h2⟩ := h
  refine ⟨h1, ?_⟩
  rcases h2 with h2 | ⟨g, cap, cur, h3, h4, h5, h6⟩
  · exact .inl h2
  · refine .inr ⟨g, cap, cur, h3, h4, ?_, h6⟩
    have hg : g < W.heap.size := by
      rcases Nat.lt_or_ge g W.heap.size with h | h
      · exact h
      · rw [Array.getElem?_eq_none h] at h5; cases h5
    rw [hb.block g hg]
    exact h5
theorem OwnsW.base {W : World} {B B' : Nat} {v : Value} {L : List Wrd} (h : OwnsW W B v L) (hb : B' ≤ B) : OwnsW W B' v L := by
  obtain ⟨h1, h2⟩ := h
  refine ⟨h1, ?_⟩
  rcases h2 with h2 | ⟨g, cap, cur, h3, h4, h5⟩
  · exact .inl h2
  · exact .inr ⟨g, cap, cur, h3, Nat.le_trans hb h4, h5⟩
theorem OwnsW.reads {W : World} {B : Nat} {v : Value} {L : List Wrd} (h : OwnsW W B v L) : ReadsW W v L := by
  obtain ⟨h1, h2⟩ := h
  rcases h2 with ⟨h2, h3⟩ | ⟨g, cap, cur, h3, h4, h5, h6, h7, h8, h9⟩
  · have : L = [] := List.length_eq_zero_iff.1 h3
    subst this; rw [h2]; exact ReadsW.nil W
  · have hg : g < W.heap.size := by
      rcases Nat.lt_or_ge g W.heap.size with h | h
      · exact h
      · rw [Array.getElem?_eq_none h] at h5; cases h5
    refine ⟨_, cap, h3, h6, h7, (fun h => by cases h), fun h0 => ⟨g, 0, rfl, hg, fun j hj => ?_⟩⟩
    have hcell : ∀ q, q < L.length * 3 → W.cell? ⟨g, q, none⟩ = (L.flatMap wcells)[q]? := fun q hq => by
      rw [Joins.cell_of_block h5, ← h9, List.getElem?_take, if_pos hq, Array.getElem?_toList]
    obtain ⟨e1, e2, e3⟩ := wflat_at L j hj
    rw [Nat.zero_add]
    exact ⟨(hcell _ (by omega)).trans e1, (hcell _ (by omega)).trans e2, (hcell _ (by omega)).trans e3⟩
theorem ReadsW.below {W W' : World} {v : Value} {L : List Wrd} (h : ReadsW W v L) (hb : Below W.heap.size W W') : ReadsW W' v L := by
  obtain ⟨ao, cap, h1, h2, h3, h3', h4⟩ := h
  refine ⟨ao, cap, h1, h2, h3, h3', fun h0 => ?_⟩
  obtain ⟨b, off, e1, e2, e3⟩ := h4 h0
  refine ⟨b, off, e1, Nat.lt_of_lt_of_le e2 hb.size, fun j hj => ?_⟩
  rw [hb.cell (p := ⟨b, off + j * 3, none⟩) e2, hb.cell (p := ⟨b, off + j * 3 + 1, none⟩) e2, hb.cell (p := ⟨b, off + j * 3 + 2, none⟩) e2]
  exact e3 j hj

theorem three_cells (W : World) (f : Wrd) : ∀ j u, (wcells f)[j]? = some u → (W.alloc (.cells #[.string (S f.1), .string (S f.2.1), .string (S f.2.2)] 30)).cell? ((⟨W.heap.size, 0, none⟩ : Addr).add j) = some u := by
  intro j u hj
  match j, hj with
  | 0, hj => simp [wcells] at hj; subst hj; simp [Addr.add]
  | 1, hj => simp [wcells] at hj; subst hj; simp [Addr.add]
  | 2, hj => simp [wcells] at hj; subst hj; simp [Addr.add]

/-- 'out = append(out, w)', w one word, just laid: other blocks stay, and out is in none of them. -/
theorem wp_append_wrd {ops : Array Oper} {rest : List Oper} {o : Oper} {a : Act} {Q : Exit → Act → World → Prop} (hgd : o.guard = none) (s x : Operand)
    (ho : o.op = .call { callee := .builtin .append, args := #[s, x], argTypes := #[22, 22] })
    (W : World) (B : Nat) (v : Value) (L : List Wrd) (f : Wrd) (hown : OwnsW W B v L) (hs : a.eval s = v) (g : Nat) (hx : a.eval x = .slice (some ⟨g, 0, none⟩) 1 1) (hg : g = W.heap.size)
    (hn : L.length ≤ 1099511627776) (hB : B ≤ W.heap.size)
    (h : ∀ v' w', OwnsW w' B v' (L ++ [f]) → Below B W w' → (∀ k, k < W.heap.size → v.ownBlock ≠ some k → w'.heap[k]? = W.heap[k]? ∧ v'.ownBlock ≠ some k) → wpList Tryd.prog ops Q rest (a.put o.dst v') w') : wpList Tryd.prog ops Q (o :: rest) a (W.alloc (.cells #[.string (S f.1), .string (S f.2.1), .string (S f.2.2)] 30)) := by
  subst hg
  obtain ⟨i0, hi, hz0, hz1, hz2⟩ := info_parts infoWrd
  have hown' : (W.alloc (.cells #[.string (S f.1), .string (S f.2.1), .string (S f.2.2)] 30)).ownsRow B 30 3 v L.length (L.flatMap wcells) := World.ownsRow.alloc hown _
  refine Go.wpList_append_own_at _ hgd s x 22 ho B 30 i0 (.agg #[.string ⟨#[]⟩, .string ⟨#[]⟩, .string ⟨#[]⟩]) 3 48 Tryd.underlying22 hi hz0 hz1 hz2 rfl (by decide) v L.length _ hs hown' ⟨W.heap.size, 0, none⟩ 1 1 (wcells f) hx rfl (three_cells W f) ?_ ?_ ?_ ?_ ?_
  · intro u hu; simp [wcells] at hu; rcases hu with rfl | rfl | rfl <;> rfl
  · unfold maxLen; omega
  · omega
  · simp; omega
  · intro v' w' h1 h2 _ h4
    refine h v' w' (by unfold OwnsW; simpa using h1) ?_ (fun k hk hne => ⟨?_, ?_⟩)
    · refine Below.grown (w := W.alloc (.cells #[.string (S f.1), .string (S f.2.1), .string (S f.2.2)] 30)) ((Below.refl _ _).alloc hB _) h2 (by simp; omega) ?_
      intro k hk
      exact (World.ownsRow.lt hown' k hk).1
    · rw [h2.block k (by simp; omega) (fun e => hne e.symm)]
      show (W.heap.push _)[k]? = _
      rw [Array.getElem?_push_lt hk, Array.getElem?_eq_getElem hk]
    · rcases h4 with h4 | h4
      · rw [h4]; exact hne
      · rw [h4]; simp; omega

theorem wclipCells {W' : World} {ao : Option Addr} {cap : Nat} {L : List Wrd} (hr : ReadsW W' (.slice ao L.length cap) L) : ∀ b, ao = some b → ∀ j u, (L.flatMap wcells)[j]? = some u → W'.cell? (b.add j) = some u := by
  obtain ⟨ao', cap', e1, e2, e3, e4, e5⟩ := hr
  injection e1 with e6 e7 e8
  subst e6
  intro b hb j u hj
  have hlen := wflat_len L
  have hj2 : j < L.length * 3 := by
    rcases Nat.lt_or_ge j (L.length * 3) with h' | h'
    · exact h'
    · rw [List.getElem?_eq_none (by omega)] at hj; cases hj
  obtain ⟨b0, off, e9, e10, e11⟩ := e5 (by omega)
  rw [hb] at e9
  cases e9
  obtain ⟨c1, c2, c3⟩ := e11 (j / 3) (by omega)
  obtain ⟨d1, d2, d3⟩ := wflat_at L (j / 3) (by omega)
  have hadd : ((⟨b0, off, none⟩ : Addr).add j) = ⟨b0, off + j, none⟩ := by
    unfold Addr.add; split
    · rename_i e; subst e; rfl
    · rfl
  rw [hadd]
  rcases (by omega : j % 3 = 0 ∨ j % 3 = 1 ∨ j % 3 = 2) with hm | hm | hm
  · have : j = j / 3 * 3 := by omega
    rw [← this] at c1 d1
    rw [c1, ← d1]; exact hj
  · have : j = j / 3 * 3 + 1 := by omega
    rw [Nat.add_assoc, ← this] at c2
    rw [← this] at d2
    rw [c2, ← d2]; exact hj
  · have : j = j / 3 * 3 + 2 := by omega
    rw [Nat.add_assoc, ← this] at c3
    rw [← this] at d3
    rw [c3, ← d3]; exact hj
/-- 'append(out, l...)', out the call's own. -/
theorem wp_append_wrow {ops : Array Oper} {rest : List Oper} {o : Oper} {a : Act} {Q : Exit → Act → World → Prop} (hgd : o.guard = none) (s x : Operand)
    (ho : o.op = .call { callee := .builtin .append, args := #[s, x], argTypes := #[22, 22] })
    (W : World) (B : Nat) (v : Value) (L0 : List Wrd) (hown : OwnsW W B v L0) (hs : a.eval s = v) (ao : Option Addr) (cap : Nat) (L : List Wrd) (hr : ReadsW W (.slice ao L.length cap) L) (hx : a.eval x = .slice ao L.length cap)
    (hn : L0.length + L.length ≤ 1099511627776) (hB : B ≤ W.heap.size)
    (h : ∀ v' w', OwnsW w' B v' (L0 ++ L) → Below B W w' → wpList Tryd.prog ops Q rest (a.put o.dst v') w') : wpList Tryd.prog ops Q (o :: rest) a W := by
  obtain ⟨i0, hi, hz0, hz1, hz2⟩ := info_parts infoWrd
  have hcells := wclipCells hr
  obtain ⟨ao', cap', e1, e2, e3, e4, e5⟩ := hr
  injection e1 with e6 e7 e8
  subst e6
  subst e8
  have hown' : W.ownsRow B 30 3 v L0.length (L0.flatMap wcells) := hown
  cases ao with
  | none =>
    have hc0 := e4 rfl
    have hz : L.length = 0 := by omega
    obtain rfl : L = [] := List.length_eq_zero_iff.1 hz
    subst hc0
    refine wpList_append_own_none hgd s x 22 ho B 30 i0 3 Tryd.underlying22 hi v L0.length _ hs hown' hx ?_
    subst hs
    exact h _ _ (by rw [List.append_nil]; exact hown) (Below.refl _ _)
  | some ad =>
    refine wpList_append_own _ hgd s x 22 ho B 30 i0 (.agg #[.string ⟨#[]⟩, .string ⟨#[]⟩, .string ⟨#[]⟩]) 3 48 Tryd.underlying22 hi hz0 hz1 hz2 rfl (by decide) v L0.length _ hs hown' ad L.length cap (L.flatMap wcells) hx (wflat_len L) (hcells ad rfl) (wflat_one L) ?_ ?_ hB ?_
    · unfold maxLen; omega
    · omega
    · intro v' w' h1 h2 h3
      refine h v' w' (by unfold OwnsW; simpa using h1) ?_
      exact Below.grown (Below.refl _ _) h2 hB (fun k hk => (World.ownsRow.lt hown' k hk).1)
end Go.Proofs.YtgjemgilanhdiaaDoor
