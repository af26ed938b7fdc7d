/- slices.Clone and slices.Insert at fields: the walks. -/
import Derived.Test.YtcfihoniocamaaaGreatDoorPk14
import Derived.Shelf.Spec.SlicesInsert
import Derived.Lib.AppendZerosOnto
import Derived.Laws.Externs
namespace Go.Proofs.YtcfihoniocamaaaGreatDoor
open Go.RowKit Go.Sort Go.Shelf
set_option linter.unusedVariables false

/-- 'copy' of elements of two cells. -/
theorem run_copy_two {P : Program} (w : World) (dT sT ty elem : TypeId) (b o dLen dCap : Nat) (a : Addr) (sLen sCap n : Nat) (cs : List Value)
    (hu : P.underlying dT = some (.slice elem)) (hs : (P.info? elem).map (·.size) = some 2) (hm : Nat.min sLen dLen = n) (hn : cs.length = n * 2)
    (hsrc : ∀ j v, cs[j]? = some v → w.cell? (a.add j) = some v) (hc : ∀ j, j < cs.length → (w.cell? ⟨b, o + j, none⟩).isSome = true) (hf : ∀ j, j < cs.length → w.frozen? ⟨b, o + j, none⟩ = false) (h1 : ∀ v ∈ cs, v.oneCell' = true) :
    (Builtin.copy_ #[dT, sT] ty #[.slice (some ⟨b, o, none⟩) dLen dCap, .slice (some a) sLen sCap]).run P w = .ok (goInt n) (w.setCells b o cs) := by
  have hl := run_loadCells_list (P := P) w a cs hsrc
  have hst := run_storeCells_cells (P := P) b o cs 0 w (by simpa using hc) (by simpa using hf) h1
  rw [hn] at hl
  cases hq : P.info? elem with
  | none => simp [hq] at hs
  | some i =>
    have hi : i.size = 2 := by simpa [hq] using hs
    simp [Builtin.copy_, run_underlying hu, Builtin.lenOf, Builtin.firstCells, sizeOf, typeInfo, hq, hi, hm, hl, hst]

set_option maxHeartbeats 800000 in
theorem clone (v : Value) (L : List Fld) (w : World) (hr : ReadsF w v L) (hlen : L.length ≤ 1099511627776) (hnn : v ≠ .slice none 0 0) :
    Calls Tryz.prog 57 #[v] w fun e w' => ∃ v', e = .returned v' ∧ OwnsF w' w.heap.size v' L ∧ Below w.heap.size w w' := by
  have HR := Lib.hid hr
  obtain ⟨ao, cap, rfl, hc1, hc2, hc3, hcell⟩ := hr
  cases ao with
  | none =>
    have := hc3 rfl
    subst this
    have h0 : L.length = 0 := by omega
    rw [h0] at hnn
    exact absurd rfl hnn
  | some ad =>
    have hnil : ∀ W, (binOp .eql 22 (.slice (some ad) L.length cap) (.slice none 0 0)).run Tryz.prog W = .ok (.bool false) W := fun W => Lib.run_eql_slice_nil W _ _ (some ad) L.length cap 0 0 Tryz.underlying22
    clear hc1 hc2 hc3 hcell hnn
    go_enter Tryz.func57, Tryz.ntmps57
    go_wp2_with (at_builtin; refine wp_append_row rfl _ _ rfl _ w.heap.size _ [] (OwnsF.made w w.heap.size (Nat.le_refl _)) rfl (some ad) cap L (HR.out.below (by (repeat (first | (with_reducible exact Below.refl _ _) | (with_reducible assumption) | (with_reducible refine Below.drew ?_) | (focus ((with_reducible refine Below.setCell ?_ ?_ _); rotate_left; (first | omega | (simp <;> omega)))) | (focus ((with_reducible refine Below.alloc ?_ ?_ _); rotate_left; (first | omega | (simp <;> omega)))) | exact Below.refl _ _ | assumption | refine Below.drew ?_ | refine Below.alloc ?_ (by first | omega | (simp <;> omega)) _ | refine Below.setCell ?_ (by first | omega | (simp <;> omega)) _)))) rfl (by simp; omega) (by simp) ?_; intro v' w1 hown hb; have HO := Lib.hid hown; have hbw := Below.trans (show Below w.heap.size w _ by (repeat (first | (with_reducible exact Below.refl _ _) | (with_reducible assumption) | (with_reducible refine Below.drew ?_) | (focus ((with_reducible refine Below.setCell ?_ ?_ _); rotate_left; (first | omega | (simp <;> omega)))) | (focus ((with_reducible refine Below.alloc ?_ ?_ _); rotate_left; (first | omega | (simp <;> omega)))) | exact Below.refl _ _ | assumption | refine Below.drew ?_ | refine Below.alloc ?_ (by first | omega | (simp <;> omega)) _ | refine Below.setCell ?_ (by first | omega | (simp <;> omega)) _))) hb; clear hown)
    go_ret
    exact ⟨_, rfl, by simpa using HO.out, hbw⟩

theorem flat_drop (L : List Fld) (i : Nat) : (L.drop i).flatMap fcells = (L.flatMap fcells).drop (i * 2) := by
  induction L generalizing i with
  | nil => simp
  | cons f L ih =>
    cases i with
    | zero => simp
    | succ i =>
      rw [List.drop_succ_cons, ih, List.flatMap_cons, List.drop_append, List.drop_eq_nil_of_le (by rw [show (fcells f).length = 2 from rfl]; omega : (fcells f).length ≤ (i + 1) * 2), List.nil_append]
      congr 1
      simp [fcells]; omega
theorem fcells_len (f : Fld) : (fcells f).length = 2 := rfl
theorem ins_at {L : List Fld} {i : Nat} (f : Fld) (hi : i ≤ L.length) (j : Nat) (hj : j < (L.take i ++ f :: L.drop i).length) :
    (j < i ∧ ∃ h : j < L.length, (L.take i ++ f :: L.drop i)[j] = L[j]) ∨ (j = i ∧ (L.take i ++ f :: L.drop i)[j] = f) ∨ (i < j ∧ ∃ h : j - 1 < L.length, (L.take i ++ f :: L.drop i)[j] = L[j - 1]) := by
  have hl : (L.take i).length = i := by simp; omega
  rcases Nat.lt_trichotomy j i with h | h | h
  · refine .inl ⟨h, by omega, ?_⟩
    rw [List.getElem_append_left (by omega)]
    simp
  · refine .inr (.inl ⟨h, ?_⟩)
    rw [List.getElem_append_right (by omega)]
    simp [hl, h]
  · refine .inr (.inr ⟨h, by simp at hj; omega, ?_⟩)
    rw [List.getElem_append_right (by omega)]
    obtain ⟨d, rfl⟩ : ∃ d, j = i + 1 + d := ⟨j - (i + 1), by omega⟩
    simp only [hl, show i + 1 + d - i = d + 1 by omega, List.getElem_cons_succ, List.getElem_drop, show i + 1 + d - 1 = i + d by omega]

set_option maxHeartbeats 4000000 in
set_option maxRecDepth 100000 in
/-- slices.Insert at fields, in the midst, there is room: in place. -/
theorem ins_room (B g q i cap : Nat) (L : List Fld) (f : Fld) (cur : Array Value) (w : World) (hg : w.heap[g]? = some (.cells cur 54 (0, 0))) (hcs : cur.size = cap * 2) (htk : cur.toList.take (L.length * 2) = L.flatMap fcells)
    (hq : w.heap[q]? = some (.cells #[.string (S f.1), .string (S f.2)] 54 (0, 0))) (hne : q ≠ g) (hi : i < L.length) (hroom : L.length + 1 ≤ cap) (hm : cap ≤ 9223372036854775807) (hB : B ≤ g) :
    Calls Tryz.prog 56 #[.slice (some ⟨g, 0, none⟩) L.length cap, .int .i64 i, .slice (some ⟨q, 0, none⟩) 1 1] w fun e w' =>
      e = .returned (.slice (some ⟨g, 0, none⟩) (L.length + 1) cap) ∧ w' = (w.drew.setCells g ((i + 1) * 2) ((L.drop i).flatMap fcells)).setCells g (i * 2) (fcells f) := by
  have hcell : ∀ k, k < cap * 2 → w.cell? ⟨g, k, none⟩ = cur[k]? := fun k _ => Joins.cell_of_block hg k
  have hsome : ∀ k, k < cap * 2 → (w.cell? ⟨g, k, none⟩).isSome = true := fun k hk => by rw [hcell k hk, Array.getElem?_eq_getElem (by omega)]; rfl
  have hfr : ∀ k, w.frozen? ⟨g, k, none⟩ = false := fun k => Joins.unfrozen_of_block hg k
  have hflat : ∀ k v, (L.flatMap fcells)[k]? = some v → w.cell? ⟨g, k, none⟩ = some v := fun k v h => by
    have hk : k < L.length * 2 := by
      rcases Nat.lt_or_ge k (L.length * 2) with h' | h'
      · exact h'
      · rw [List.getElem?_eq_none (by rw [flat_len]; omega)] at h; cases h
    rw [hcell k (by omega), ← h, ← htk, List.getElem?_take, if_pos hk, Array.getElem?_toList]
  have hsz : (Tryz.prog.info? 54).map (·.size) = some 2 := by kernel_rfl
  have hov : ∀ lb cb, (callFunc 84 #[.slice (some ⟨q, 0, none⟩) 1 1, .slice (some ⟨g, (i + 1) * 2, none⟩) lb cb]).run Tryz.prog w = .ok (.value (.bool false)) w := fun lb cb => by
    rw [run_callFunc_extern Tryz.func84 (by kernel_rfl) (by kernel_rfl) (by kernel_rfl) (e := Extern.SlicesOverlaps.overlaps #[22, 22] #[4]) (by kernel_rfl),
      Lib.run_overlaps_apart w 22 4 54 Tryz.underlying22 2 (fun _ => by kernel_rfl) ⟨q, 0, none⟩ ⟨g, (i + 1) * 2, none⟩ 1 1 lb cb hne 54 54 2 cur.size (by simp [World.shape?, hq]) (by simp [World.shape?, hg]) (by omega) (Joins.unfrozen_of_block hq _) (Joins.unfrozen_of_block hq _)]
    rfl
  have hd1 : ((L.drop i).flatMap fcells).length = (L.length - i) * 2 := by rw [flat_len]; simp
  have hcp1 : ∀ ty dc sc, (Builtin.copy_ #[22, 22] ty #[.slice (some ⟨g, (i + 1) * 2, none⟩) (L.length - i) dc, .slice (some ⟨g, i * 2, none⟩) (L.length + 1 - i) sc]).run Tryz.prog w.drew = .ok (goInt ((L.length - i : Nat) : Int)) (w.drew.setCells g ((i + 1) * 2) ((L.drop i).flatMap fcells)) := fun ty dc sc =>
    run_copy_two w.drew _ _ ty 54 g ((i + 1) * 2) _ dc ⟨g, i * 2, none⟩ _ sc (L.length - i) _ Tryz.underlying22 hsz (by simp only [Nat.min_def]; split <;> omega) hd1
      (fun j v hj => by rw [Addr.add_lit]; refine hflat _ v ?_; rw [flat_drop, List.getElem?_drop] at hj; exact hj)
      (fun j hj => hsome ((i + 1) * 2 + j) (by rw [hd1] at hj; omega)) (fun j _ => hfr _) (flat_one _)
  obtain ⟨W1, hW1⟩ : ∃ W1, W1 = w.drew.setCells g ((i + 1) * 2) ((L.drop i).flatMap fcells) := ⟨_, rfl⟩
  have hsp1 : ∀ k, k < cap * 2 → (W1.cell? ⟨g, k, none⟩).isSome = true := fun k hk => by
    rw [hW1]
    exact isSome_setCells g _ _ w.drew (fun j hj => hsome ((i + 1) * 2 + j) (by rw [hd1] at hj; omega)) _ (hsome k hk)
  have hcp2 : ∀ (W : World), (∀ x, W.cell? x = W1.cell? x) → (∀ x, W.frozen? x = W1.frozen? x) → ∀ ty dc, (Builtin.copy_ #[22, 22] ty #[.slice (some ⟨g, i * 2, none⟩) (L.length + 1 - i) dc, .slice (some ⟨q, 0, none⟩) 1 1]).run Tryz.prog W = .ok (goInt ((1 : Nat) : Int)) (W.setCells g (i * 2) (fcells f)) := fun W hWc hWf ty dc =>
    run_copy_two W _ _ ty 54 g (i * 2) _ dc ⟨q, 0, none⟩ 1 1 1 (fcells f) Tryz.underlying22 hsz (by simp only [Nat.min_def]; split <;> omega) rfl
      (fun j v hj => by
        rw [Addr.add_lit, hWc, hW1, World.cell?_setCells_out g _ _ _ _ (fun h _ => absurd h hne)]
        show w.cell? _ = _
        rw [Joins.cell_of_block hq, Nat.zero_add]
        match j, hj with
        | 0, hj => simpa [fcells] using hj
        | 1, hj => simpa [fcells] using hj)
      (fun j hj => by rw [hWc]; exact hsp1 _ (by rw [fcells_len] at hj; omega)) (fun j hj => by rw [hWf, hW1, World.frozen?_setCells]; exact hfr _) (by intro u hu; simp [fcells] at hu; rcases hu with rfl | rfl <;> rfl)
  rw [← hW1] at hcp1
  have hz2 : ((i : Int) == (L.length : Int)) = false := by simp; omega
  have mixed : Tryz.prog.follows .mixedOrders = true := by kernel_rfl
  have hw1 : IntKind.i64.wrap ((i : Int) + 1) = (i : Int) + 1 := by rw [IntKind.wrap_i64]; omega
  have hb1 : (0 : Int) ≤ (i : Int) + 1 := by omega
  have hb5 : (i : Int) + 1 ≤ (L.length : Int) + 1 := by omega
  have htn : ((i : Int) + 1).toNat = i + 1 := by omega
  have hb2 : ¬ (cap = i + 1) := by omega
  have hb3 : (i : Int) ≤ (L.length : Int) + 1 := by omega
  have hb4 : ¬ (cap = i) := by omega
  clear hcell hsome hflat htk hg hq
  go_enter Tryz.func56, Tryz.ntmps56
  go_wp2_with (simp only [hov])
  go_region_law_o (refine step_copy_runI rfl _ _ 22 22 rfl _ _ (by simp [Act.eval, Act.put]) (by simp [Act.eval, Act.put]) (hcp1 _ _ _) ?_)
  go_wp2_with (at_builtin; refine wpList_copy_runI _ rfl _ _ 22 22 rfl _ _ rfl rfl (hcp2 _ (fun _ => rfl) (fun _ => rfl) _ _) ?_)
  go_ret
  first | exact ⟨rfl, rfl⟩ | exact ⟨rfl, by rw [hW1]⟩
end Go.Proofs.YtcfihoniocamaaaGreatDoor
