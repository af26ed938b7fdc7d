/- slices.Insert at fields where there is no room: the walk. -/
import Derived.Test.YtcfihoniocamaaaGreatDoorPk22
namespace Go.Proofs.YtcfihoniocamaaaGreatDoor
open Go.RowKit Go.Sort Go.Shelf
set_option linter.unusedVariables false

theorem flat_take (L : List Fld) (i : Nat) (hi : i ≤ L.length) : (L.take i).flatMap fcells = (L.flatMap fcells).take (i * 2) := by
  have hl : ((L.take i).flatMap fcells).length = i * 2 := by rw [flat_len, List.length_take]; omega
  have h : L.flatMap fcells = (L.take i).flatMap fcells ++ (L.drop i).flatMap fcells := by rw [← List.flatMap_append, List.take_append_drop]
  obtain ⟨A, hA⟩ : ∃ A, (L.take i).flatMap fcells = A := ⟨_, rfl⟩
  rw [hA] at hl h ⊢
  rw [h, List.take_append_of_le_length (by omega), List.take_of_length_le (by omega)]
theorem zeroF_size (k : Nat) : (Builtin.zeroCells (Value.agg #[.string ⟨#[]⟩, .string ⟨#[]⟩]).cells k).size = k * 2 := by
  simp [Builtin.zeroCells, Value.cells]

set_option maxHeartbeats 4000000 in
set_option maxRecDepth 100000 in
/-- slices.Insert at fields, in the midst, no room: a new row. -/
theorem ins_grow (g q i cap : Nat) (L : List Fld) (f : Fld) (cur : Array Value) (w : World) (hg : w.heap[g]? = some (.cells cur 54 (0, 0))) (hcs : cur.size = cap * 2) (htk : cur.toList.take (L.length * 2) = L.flatMap fcells)
    (hq : w.heap[q]? = some (.cells #[.string (S f.1), .string (S f.2)] 54 (0, 0))) (hi : i < L.length) (hlc : L.length ≤ cap) (hroom : cap < L.length + 1) (hbig : L.length ≤ 1099511627776) :
    Calls Tryz.prog 56 #[.slice (some ⟨g, 0, none⟩) L.length cap, .int .i64 i, .slice (some ⟨q, 0, none⟩) 1 1] w fun e w' => ∃ G ROW, L.length + 1 ≤ G ∧ G ≤ 9223372036854775807 ∧ L.length * 2 + 2 ≤ ROW.size ∧
      (∀ k, k < i * 2 → ROW[k]? = (L.flatMap fcells)[k]?) ∧
      e = .returned (.slice (some ⟨w.heap.size, 0, none⟩) (L.length + 1) G) ∧ w' = (((w.alloc (.cells ROW 54)).drew.setCells w.heap.size (i * 2) (fcells f)).drew).setCells w.heap.size ((i + 1) * 2) ((L.drop i).flatMap fcells) := by
  have hgw : g < w.heap.size := lt_of_block hg
  have hqw : q < w.heap.size := lt_of_block hq
  obtain ⟨i0, hi0, hz0, hzs, hzb⟩ := info_parts infoFld
  have hsz : (Tryz.prog.info? 54).map (·.size) = some 2 := by kernel_rfl
  have hflat : ∀ k v, (L.flatMap fcells)[k]? = some v → w.cell? ⟨g, k, none⟩ = some v := fun k v h => by
    have hk : k < L.length * 2 := by
      rcases Nat.lt_or_ge k (L.length * 2) with h' | h'
      · exact h'
      · rw [List.getElem?_eq_none (by rw [flat_len]; omega)] at h; cases h
    rw [Joins.cell_of_block hg, ← h, ← htk, List.getElem?_take, if_pos hk, Array.getElem?_toList]
  have hkk : (L.length : Int) + 1 - (i : Int) = ((L.length + 1 - i : Nat) : Int) := by omega
  have hik : i + (L.length + 1 - i) = L.length + 1 := by omega
  have hold : (Builtin.firstCells i0.size i (.slice (some ⟨g, 0, none⟩) i cap)).run Tryz.prog w.drew = .ok ((L.flatMap fcells).take (i * 2)).toArray w.drew := by
    rw [hzs]
    exact run_firstCells_some w.drew 2 i ⟨g, 0, none⟩ i cap _ (by rw [List.length_take, flat_len]; omega) (fun j v hj => by
      rw [Addr.add_lit, Nat.zero_add]
      rw [List.getElem?_take] at hj
      split at hj
      · exact hflat j v hj
      · cases hj)
  have hrz : ∀ ty, (Builtin.append_ #[22, 3] ty #[.slice (some ⟨g, 0, none⟩) i cap, .int .i64 ((L.length : Int) + 1 - (i : Int))]).run Tryz.prog w =
      .ok (.slice (some ⟨w.heap.size, 0, none⟩) (L.length + 1) (grownCap w (L.length + 1) cap 54)) (w.drew.alloc (.cells (((L.flatMap fcells).take (i * 2)).toArray ++ Builtin.zeroCells (Value.agg #[.string ⟨#[]⟩, .string ⟨#[]⟩]).cells (L.length + 1 - i) ++ Builtin.zeroCells (Value.agg #[.string ⟨#[]⟩, .string ⟨#[]⟩]).cells (grownCap w (L.length + 1) cap 54 - (L.length + 1))) 54)) := fun ty => by
    have h := Lib.run_append_grow_zeros w 22 3 ty 54 i0 _ .i64 .i64 Tryz.underlying22 Tryz.underlying3 hi0 hz0 (some ⟨g, 0, none⟩) i cap _ hold (L.length + 1 - i) (by omega) (by omega) (by omega) (by omega) (by rw [hzb]; omega) (by rw [hzb, hik]; exact growslice_fits hroom (by omega))
    rw [hik] at h
    rw [hkk]
    exact h
  obtain ⟨G, hG⟩ : ∃ G, G = grownCap w (L.length + 1) cap 54 := ⟨_, rfl⟩
  obtain ⟨ROW, hROW⟩ : ∃ ROW : Array Value, ROW = ((L.flatMap fcells).take (i * 2)).toArray ++ Builtin.zeroCells (Value.agg #[.string ⟨#[]⟩, .string ⟨#[]⟩]).cells (L.length + 1 - i) ++ Builtin.zeroCells (Value.agg #[.string ⟨#[]⟩, .string ⟨#[]⟩]).cells (G - (L.length + 1)) := ⟨_, rfl⟩
  rw [← hG] at hrz
  rw [← hROW] at hrz
  have hRl : L.length * 2 + 2 ≤ ROW.size := by
    rw [hROW, Array.size_append, Array.size_append, zeroF_size, zeroF_size, List.size_toArray, List.length_take, flat_len]
    omega
  have hRk : ∀ k, k < i * 2 → ROW[k]? = (L.flatMap fcells)[k]? := fun k hk => by
    have hl : (((L.flatMap fcells).take (i * 2)).toArray).size = i * 2 := by rw [List.size_toArray, List.length_take, flat_len]; omega
    rw [hROW, Array.append_assoc, Array.getElem?_append_left (by omega), List.getElem?_toArray, List.getElem?_take, if_pos hk]
  obtain ⟨W1, hW1⟩ : ∃ W1, W1 = w.drew.alloc (.cells ROW 54) := ⟨_, rfl⟩
  rw [← hW1] at hrz
  have hN : ∀ j, j < L.length * 2 + 2 → (W1.cell? ⟨w.heap.size, j, none⟩).isSome = true := fun j hj => by
    rw [hW1, World.cell?_alloc_at (w := w.drew) ROW _ w.heap.size j rfl, Array.getElem?_eq_getElem (by omega)]; rfl
  have hNf : ∀ j, W1.frozen? ⟨w.heap.size, j, none⟩ = false := fun j => by rw [hW1]; exact World.frozen?_alloc_at (w := w.drew) ROW _ w.heap.size j rfl
  have hOb : ∀ j v, w.cell? ⟨g, j, none⟩ = some v → W1.cell? ⟨g, j, none⟩ = some v := fun j v h => by rw [hW1, World.cell?_alloc_past (w := w.drew) _ g j hgw]; exact h
  have hOv : ∀ j v, w.cell? ⟨q, j, none⟩ = some v → W1.cell? ⟨q, j, none⟩ = some v := fun j v h => by rw [hW1, World.cell?_alloc_past (w := w.drew) _ q j hqw]; exact h
  have hf1 : ∀ v ∈ fcells f, v.oneCell' = true := by intro u hu; simp [fcells] at hu; rcases hu with rfl | rfl <;> rfl
  have hcpA : ∀ (W : World), (∀ x, W.cell? x = W1.cell? x) → (∀ x, W.frozen? x = W1.frozen? x) → ∀ ty dc, (Builtin.copy_ #[22, 22] ty #[.slice (some ⟨w.heap.size, i * 2, none⟩) (L.length + 1 - i) dc, .slice (some ⟨q, 0, none⟩) 1 1]).run Tryz.prog W = .ok (goInt ((1 : Nat) : Int)) (W.setCells w.heap.size (i * 2) (fcells f)) := fun W hWc hWf ty dc =>
    run_copy_two W _ _ ty 54 w.heap.size (i * 2) _ dc ⟨q, 0, none⟩ 1 1 1 (fcells f) Tryz.underlying22 hsz (by simp only [Nat.min_def]; split <;> omega) rfl
      (fun j v hj => by
        rw [Addr.add_lit, hWc]
        refine hOv _ v ?_
        rw [Joins.cell_of_block hq, Nat.zero_add]
        match j, hj with
        | 0, hj => simpa [fcells] using hj
        | 1, hj => simpa [fcells] using hj)
      (fun j hj => by rw [hWc]; exact hN _ (by rw [fcells_len] at hj; omega)) (fun j hj => by rw [hWf]; exact hNf _) hf1
  have hGn : L.length + 1 ≤ G := by rw [hG]; exact grownCap_ge w _ _ _
  have hG63 : G ≤ 9223372036854775807 := by
    have := grownCap_le_maxLen w (L.length + 1) cap 54 (by unfold maxLen; omega)
    rw [← hG] at this
    unfold maxLen at this
    omega
  have hGi : ¬ (G = i) := by omega
  have hGim : ¬ (G = i + 1) := by omega
  have hci : ¬ (cap = i) := by omega
  have hgN : g ≠ w.heap.size := by omega
  have hd1 : ((L.drop i).flatMap fcells).length = (L.length - i) * 2 := by rw [flat_len]; simp
  have hcpB : ∀ (W : World), (∀ x, W.cell? x = (W1.setCells w.heap.size (i * 2) (fcells f)).cell? x) → (∀ x, W.frozen? x = (W1.setCells w.heap.size (i * 2) (fcells f)).frozen? x) → ∀ ty dc sc, (Builtin.copy_ #[22, 22] ty #[.slice (some ⟨w.heap.size, (i + 1) * 2, none⟩) (L.length - i) dc, .slice (some ⟨g, i * 2, none⟩) (L.length - i) sc]).run Tryz.prog W = .ok (goInt ((L.length - i : Nat) : Int)) (W.setCells w.heap.size ((i + 1) * 2) ((L.drop i).flatMap fcells)) := fun W hWc hWf ty dc sc =>
    run_copy_two W _ _ ty 54 w.heap.size ((i + 1) * 2) _ dc ⟨g, i * 2, none⟩ _ sc (L.length - i) _ Tryz.underlying22 hsz (by simp only [Nat.min_def]; split <;> omega) hd1
      (fun j v hj => by
        rw [Addr.add_lit, hWc, World.cell?_setCells_out _ _ _ _ _ (fun h _ => absurd h hgN)]
        refine hOb _ v (hflat _ v ?_)
        rw [flat_drop, List.getElem?_drop] at hj; exact hj)
      (fun j hj => by rw [hWc]; exact isSome_setCells _ _ _ _ (fun t ht => hN (i * 2 + t) (by rw [fcells_len] at ht; omega)) _ (hN _ (by rw [hd1] at hj; omega)))
      (fun j hj => by rw [hWf, World.frozen?_setCells]; exact hNf _) (flat_one _)
  subst hW1
  have hE1 : ∀ x, ((w.alloc (.cells ROW 54)).drew).cell? x = (w.drew.alloc (.cells ROW 54)).cell? x := fun x => rfl
  have hE2 : ∀ x, ((w.alloc (.cells ROW 54)).drew).frozen? x = (w.drew.alloc (.cells ROW 54)).frozen? x := fun x => rfl
  have hF1 : ∀ x, (((w.alloc (.cells ROW 54)).drew.setCells w.heap.size (i * 2) (fcells f)).drew).cell? x = ((w.drew.alloc (.cells ROW 54)).setCells w.heap.size (i * 2) (fcells f)).cell? x := fun x => rfl
  have hF2 : ∀ x, (((w.alloc (.cells ROW 54)).drew.setCells w.heap.size (i * 2) (fcells f)).drew).frozen? x = ((w.drew.alloc (.cells ROW 54)).setCells w.heap.size (i * 2) (fcells f)).frozen? x := fun x => rfl
  have mixed : Tryz.prog.follows .mixedOrders = true := by kernel_rfl
  have hz2 : ((i : Int) == (L.length : Int)) = false := by simp; omega
  have hz3 : (cap : Int) < (L.length : Int) + 1 := by omega
  have hw1 : IntKind.i64.wrap ((i : Int) + 1) = (i : Int) + 1 := by rw [IntKind.wrap_i64]; omega
  have hb1 : (0 : Int) ≤ (i : Int) + 1 := by omega
  have hb5 : (i : Int) + 1 ≤ (L.length : Int) + 1 := by omega
  have htn : ((i : Int) + 1).toNat = i + 1 := by omega
  have hb3 : (i : Int) ≤ (L.length : Int) := by omega
  have hb6 : (i : Int) ≤ (L.length : Int) + 1 := by omega
  have HRK := Lib.hid hRk
  clear hkk hik hold hROW hG hRk htk hflat hg hq hOb hOv hN hNf
  go_enter Tryz.func56, Tryz.ntmps56
  go_wp2_with (first
    | (at_builtin; refine Lib.wpList_append_run _ rfl _ _ _ _ rfl _ _ rfl rfl _ _ (hrz _) ?_)
    | (at_builtin; refine wpList_copy_runI _ rfl _ _ 22 22 rfl _ _ rfl rfl (hcpA _ hE1 hE2 _ _) ?_))
  go_region_law_o (refine step_copy_runI rfl _ _ 22 22 rfl (.slice (some ⟨w.heap.size, (i + 1) * 2, none⟩) (L.length - i) (G - (i + 1))) (.slice (some ⟨g, i * 2, none⟩) (L.length - i) (cap - i)) (by simp [Act.eval, Act.put]) (by simp [Act.eval, Act.put]) (hcpB _ hF1 hF2 3 (G - (i + 1)) (cap - i)) ?_)
  go_wp2
  go_ret
  exact ⟨G, ROW, hGn, hG63, hRl, HRK.out, rfl, rfl⟩
end Go.Proofs.YtcfihoniocamaaaGreatDoor
