/- slices.Insert at fields: what is read behind it. -/
import Derived.Test.YtcfihoniocamaaaGreatDoorPk23
namespace Go.Proofs.YtcfihoniocamaaaGreatDoor
open Go.RowKit Go.Sort Go.Shelf
set_option linter.unusedVariables false

theorem below_cells {B b : Nat} {w : World} (hb : B ≤ b) : ∀ (vs : List Value) (o : Nat) (W : World), Below B w W → Below B w (W.setCells b o vs)
  | [], o, W, h => h
  | v :: r, o, W, h => by
    rw [World.setCells]
    exact below_cells hb r (o + 1) _ (Below.setCell h hb v)
theorem size_cells (b : Nat) : ∀ (vs : List Value) (o : Nat) (W : World), (W.setCells b o vs).heap.size = W.heap.size
  | [], o, W => rfl
  | v :: r, o, W => by rw [World.setCells, size_cells b r]; simp

theorem ins_reads {W : World} {g cap i : Nat} {L : List Fld} {f : Fld} (hi : i < L.length) (hcap : L.length + 1 ≤ cap) (hm : cap ≤ maxLen) (hg : g < W.heap.size) (h1 : ∀ k, k < i * 2 → W.cell? ⟨g, k, none⟩ = (L.flatMap fcells)[k]?)
    (h2 : ∀ k (hk : k < 2), W.cell? ⟨g, i * 2 + k, none⟩ = some ((fcells f)[k]'hk)) (h3 : ∀ k (hk : k < ((L.drop i).flatMap fcells).length), W.cell? ⟨g, (i + 1) * 2 + k, none⟩ = some (((L.drop i).flatMap fcells)[k])) :
    ReadsF W (.slice (some ⟨g, 0, none⟩) (L.length + 1) cap) (L.take i ++ f :: L.drop i) := by
  have hl : (L.take i ++ f :: L.drop i).length = L.length + 1 := by simp; omega
  refine ⟨some ⟨g, 0, none⟩, cap, by rw [hl], by omega, hm, (fun h => by cases h), fun _ => ⟨g, 0, rfl, hg, fun j hj => ?_⟩⟩
  rw [Nat.zero_add]
  rcases ins_at f (Nat.le_of_lt hi) j hj with ⟨hji, h, e⟩ | ⟨rfl, e⟩ | ⟨hji, h, e⟩
  · rw [e]
    obtain ⟨a, b⟩ := flat_at L j h
    exact ⟨(h1 _ (by omega)).trans a, (h1 _ (by omega)).trans b⟩
  · rw [e]
    exact ⟨h2 0 (by omega), h2 1 (by omega)⟩
  · rw [e]
    have hd : j - 1 - i < (L.drop i).length := by simp; omega
    obtain ⟨a, b⟩ := flat_at (L.drop i) (j - 1 - i) hd
    have e2 : (L.drop i)[j - 1 - i] = L[j - 1] := by rw [List.getElem_drop]; congr 1; omega
    rw [e2] at a b
    have hlen : ((L.drop i).flatMap fcells).length = (L.length - i) * 2 := by rw [flat_len]; simp
    have c := h3 ((j - 1 - i) * 2) (by omega)
    have d := h3 ((j - 1 - i) * 2 + 1) (by omega)
    rw [← List.getElem?_eq_getElem, a, show (i + 1) * 2 + (j - 1 - i) * 2 = j * 2 by omega] at c
    rw [← List.getElem?_eq_getElem, b, show (i + 1) * 2 + ((j - 1 - i) * 2 + 1) = j * 2 + 1 by omega] at d
    exact ⟨c, d⟩

set_option maxHeartbeats 1600000 in
set_option maxRecDepth 100000 in
theorem insertF (B : Nat) (sv : Value) (L : List Fld) (i q : Nat) (f : Fld) (w : World) (hown : OwnsF w B sv L) (hi : i ≤ L.length) (hq : w.heap[q]? = some (.cells #[.string (S f.1), .string (S f.2)] 54 (0, 0))) (hne : sv.ownBlock ≠ some q) (hB : B ≤ w.heap.size) (hbig : L.length ≤ 1000) :
    Calls Tryz.prog 56 #[sv, .int .i64 i, .slice (some ⟨q, 0, none⟩) 1 1] w fun e w' => ∃ v', e = .returned v' ∧ ReadsF w' v' (L.take i ++ f :: L.drop i) ∧ Below B w w' := by
  have hqw : q < w.heap.size := lt_of_block hq
  have hqc0 : w.cell? ⟨q, 0, none⟩ = some (.string (S f.1)) := by rw [Joins.cell_of_block hq]; rfl
  have hqc1 : w.cell? ⟨q, 1, none⟩ = some (.string (S f.2)) := by rw [Joins.cell_of_block hq]; rfl
  by_cases hin : i < L.length
  · obtain ⟨h1, h2⟩ := hown
    rcases h2 with ⟨_, h0⟩ | ⟨g, cap, cur, rfl, hBg, hg, hlc, hcm, hcs, htk⟩
    · omega
    · have hgw : g < w.heap.size := lt_of_block hg
      have hqg : q ≠ g := fun e => hne (by rw [e]; rfl)
      have hd1 : ((L.drop i).flatMap fcells).length = (L.length - i) * 2 := by rw [flat_len]; simp
      have hcell : ∀ k, w.cell? ⟨g, k, none⟩ = cur[k]? := fun k => Joins.cell_of_block hg k
      have hflat : ∀ k, k < L.length * 2 → cur[k]? = (L.flatMap fcells)[k]? := fun k hk => by
        rw [← htk, List.getElem?_take, if_pos hk, Array.getElem?_toList]
      by_cases hroom : L.length + 1 ≤ cap
      · refine (ins_room B g q i cap L f cur w hg hcs htk hq hqg hin hroom hcm hBg).mono ?_
        rintro e w' ⟨rfl, rfl⟩
        have hs1 : ∀ k, k < cap * 2 → (w.drew.cell? ⟨g, k, none⟩).isSome = true := fun k hk => by
          show (w.cell? _).isSome = true
          rw [hcell, Array.getElem?_eq_getElem (by omega)]; rfl
        have hs2 : ∀ k, k < cap * 2 → ((w.drew.setCells g ((i + 1) * 2) ((L.drop i).flatMap fcells)).cell? ⟨g, k, none⟩).isSome = true := fun k hk =>
          isSome_setCells g _ _ w.drew (fun j hj => hs1 ((i + 1) * 2 + j) (by rw [hd1] at hj; omega)) _ (hs1 k hk)
        refine ⟨_, rfl, ins_reads hin hroom hcm (by rw [size_cells, size_cells]; exact hgw) (fun k hk => ?_) (fun k hk => ?_) (fun k hk => ?_), ?_⟩
        · rw [World.cell?_setCells_out g _ _ _ _ (fun _ _ => .inl (by show k < _; omega)), World.cell?_setCells_out g _ _ _ _ (fun _ _ => .inl (by show k < _; omega))]
          show w.cell? _ = _
          rw [hcell, hflat k (by omega)]
        · exact World.cell?_setCells_in g (fcells f) _ _ (fun j hj => hs2 (i * 2 + j) (by rw [fcells_len] at hj; omega)) k hk
        · rw [World.cell?_setCells_out g _ _ _ _ (fun _ _ => .inr (by show _ ≤ (i + 1) * 2 + k; rw [fcells_len]; omega))]
          exact World.cell?_setCells_in g _ _ _ (fun j hj => hs1 ((i + 1) * 2 + j) (by rw [hd1] at hj; omega)) k hk
        · exact below_cells hBg _ _ _ (below_cells hBg _ _ _ (Below.refl _ _).drew)
      · refine (ins_grow g q i cap L f cur w hg hcs htk hq hin hlc (by omega) (by omega)).mono ?_
        rintro e w' ⟨G, ROW, hG1, hG2, hR1, hR2, rfl, rfl⟩
        have hs1 : ∀ k, k < L.length * 2 + 2 → ((w.alloc (.cells ROW 54)).drew.cell? ⟨w.heap.size, k, none⟩) = ROW[k]? := fun k hk => by
          show (w.alloc _).cell? _ = _
          rw [World.cell?_alloc_new]
        have hs1' : ∀ k, k < L.length * 2 + 2 → ((w.alloc (.cells ROW 54)).drew.cell? ⟨w.heap.size, k, none⟩).isSome = true := fun k hk => by
          rw [hs1 k hk, Array.getElem?_eq_getElem (by omega)]; rfl
        have hs2 : ∀ k, k < L.length * 2 + 2 → (((w.alloc (.cells ROW 54)).drew.setCells w.heap.size (i * 2) (fcells f)).drew.cell? ⟨w.heap.size, k, none⟩).isSome = true := fun k hk =>
          isSome_setCells w.heap.size _ _ (w.alloc (.cells ROW 54)).drew (fun j hj => hs1' (i * 2 + j) (by rw [fcells_len] at hj; omega)) _ (hs1' k hk)
        refine ⟨_, rfl, ins_reads hin hG1 hG2 (by rw [size_cells]; show _ < (World.setCells _ _ _ _).heap.size; rw [size_cells]; show _ < (w.alloc _).heap.size; simp) (fun k hk => ?_) (fun k hk => ?_) (fun k hk => ?_), ?_⟩
        · rw [World.cell?_setCells_out _ _ _ _ _ (fun _ _ => .inl (by show k < _; omega))]
          show (World.setCells _ _ _ _).cell? _ = _
          rw [World.cell?_setCells_out _ _ _ _ _ (fun _ _ => .inl (by show k < _; omega)), hs1 k (by omega), hR2 k hk]
        · rw [World.cell?_setCells_out _ _ _ _ _ (fun _ _ => .inl (by show i * 2 + k < _; omega))]
          show (World.setCells _ _ _ _).cell? _ = _
          exact World.cell?_setCells_in _ (fcells f) _ _ (fun j hj => hs1' (i * 2 + j) (by rw [fcells_len] at hj; omega)) k hk
        · exact World.cell?_setCells_in _ _ _ _ (fun j hj => hs2 ((i + 1) * 2 + j) (by rw [hd1] at hj; omega)) k hk
        · exact below_cells hB _ _ _ (Below.drew (below_cells hB _ _ _ (Below.drew ((Below.refl _ _).alloc hB _))))
  · obtain rfl : i = L.length := by omega
    have HO := Lib.hid hown
    have HQ := Lib.hid (show ReadsF w (.slice (some ⟨q, 0, none⟩) [f].length 1) [f] from ⟨some ⟨q, 0, none⟩, 1, rfl, Nat.le_refl _, by decide, (fun h => by cases h), fun _ => ⟨q, 0, rfl, hqw, fun j hj => by
      obtain rfl : j = 0 := by simp at hj; omega
      exact ⟨hqc0, hqc1⟩⟩⟩)
    obtain ⟨ao, cap, rfl, k1, k2, k3, k4⟩ := hown.reads
    have hmx : maxLen = 9223372036854775807 := rfl
    rw [hmx] at k2
    have hfin : L.take L.length ++ f :: L.drop L.length = L ++ [f] := by rw [List.take_length, List.drop_length]
    rw [hfin]
    clear hown k3 k4 hmx hfin hq hqc0 hqc1 hne hin
    go_enter Tryz.func56, Tryz.ntmps56
    go_wp2_with (at_builtin; refine wp_append_row rfl _ _ rfl w B _ L HO.out rfl (some ⟨q, 0, none⟩) 1 [f] HQ.out rfl (by simp; omega) hB ?_; intro v' w1 hown hb; have HO2 := Lib.hid hown; clear hown)
    all_goals
      go_ret
      exact ⟨_, rfl, HO2.out.reads, hb⟩
end Go.Proofs.YtcfihoniocamaaaGreatDoor
