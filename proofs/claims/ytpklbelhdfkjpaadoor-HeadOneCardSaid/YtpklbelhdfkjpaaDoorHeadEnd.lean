/- head.End: the walk. -/
import Derived.Test.YtpklbelhdfkjpaaDoorHeadParse
namespace Go.Proofs.YtpklbelhdfkjpaaDoor
open Go.RowKit Go.Shelf
set_option linter.unusedVariables false
attribute [local go_sem] Oper.semAt_some

def EndI (w : World) (s : List UInt8) (pre : List (Ln s.length)) (W : World) : Prop :=
  ((∀ r, endH s.length (vals pre ++ r) = endH s.length r) ∧ Boxed W w.heap.size 3 (.int .i64 0) ∧ Boxed W (w.heap.size + 1) 24 (.int .i64 0) ∧ Boxed W (w.heap.size + 1 + 1) 9 (.string (S s))) ∧ Below w.heap.size w W
def EndX (w : World) (s : List UInt8) (c : Code) (pre : List (Ln s.length)) (W : World) : Prop :=
  (c = .ret ∧ ∃ (n : Nat) (e : Int), (∀ r, endH s.length (vals pre ++ r) = (n, e)) ∧ Boxed W w.heap.size 3 (.int .i64 (n : Int)) ∧ Boxed W (w.heap.size + 1) 24 (.int .i64 e)) ∧ Below w.heap.size w W
theorem endI_own (w : World) (s : List UInt8) {B : Nat} (hB : w.heap.size ≤ B) : OwnFrom B (EndI w s) :=
  OwnFrom.and (Own.from (fun pre A X row hs hg hr => by
    obtain ⟨h1, h2, h3, h4⟩ := hs
    exact ⟨h1, box_turn h2 hg hr, box_turn h3 hg hr, box_turn h4 hg hr⟩) _) (ownFrom_below (Nat.le_refl _) hB)
theorem endX_own (w : World) (s : List UInt8) {B : Nat} (hB : w.heap.size ≤ B) (c : Code) : OwnFrom B (EndX w s c) :=
  OwnFrom.and (Own.from (fun pre A X row hs hg hr => by
    obtain ⟨h0, n, e, h1, h3, h4⟩ := hs
    exact ⟨h0, n, e, h1, box_turn h3 hg hr, box_turn h4 hg hr⟩) _) (ownFrom_below (Nat.le_refl _) hB)

set_option maxRecDepth 100000 in
set_option maxHeartbeats 4000000 in
theorem headEnd_c (s : List UInt8) (hs : s.length ≤ 4611686018427387903) (w : World) :
    Calls Tryd.prog 14 #[.string (S s)] w fun e w' => e = .returned (.tuple #[.int .i64 ((headEnd s).1 : Int), .int .i64 (headEnd s).2]) ∧ Below w.heap.size w w' := by
  refine (callsIn_wide (n := 4)).1 ?_
  have HLN := Lib.hid (fun W => headLines s W)
  refine callsIn_of_wp_marks Tryd.func14 rfl trivial ?_ rfl
  simp only [Tryd.ntmps14, List.size_toArray, List.length_cons, List.length_nil, Nat.reduceAdd, Nat.reduceSub, Array.replicate_succ, Array.replicate_zero, List.push_toArray, List.append_toArray, List.nil_append, List.cons_append]
  gi_wp2_with (gi_at_call 22; refine (callsIn_wide.2 (HLN.out _)).mono ?_; rintro e w' ⟨rfl, rfl⟩)
  have B0 := ((Boxed.new w 3 (.int .i64 0)).alloc (.cells #[.int .i64 0] 24)).alloc (.cells #[.string (S s)] 9)
  have B1 := (Boxed.new (w.alloc (.cells #[.int .i64 0] 3)) 24 (.int .i64 0)).alloc (.cells #[.string (S s)] 9)
  have B2 := Boxed.new ((w.alloc (.cells #[.int .i64 0] 3)).alloc (.cells #[.int .i64 0] 24)) 9 (.string (S s))
  have hB0 : Below w.heap.size w (((w.alloc (.cells #[.int .i64 0] 3)).alloc (.cells #[.int .i64 0] 24)).alloc (.cells #[.string (S s)] 9)) := by (repeat (first | (with_reducible exact Below.refl _ _) | (with_reducible assumption) | (with_reducible refine Below.drew ?_) | (focus ((with_reducible refine Below.setCell ?_ ?_ _); rotate_left; (first | omega | (simp <;> omega)))) | (focus ((with_reducible refine Below.alloc ?_ ?_ _); rotate_left; (first | omega | (simp <;> omega)))) | exact Below.refl _ _ | assumption | refine Below.drew ?_ | refine Below.alloc ?_ (by first | omega | (simp <;> omega)) _ | refine Below.setCell ?_ (by first | omega | (simp <;> omega)) _))
  have hz0 : (((w.alloc (.cells #[.int .i64 0] 3)).alloc (.cells #[.int .i64 0] 24)).alloc (.cells #[.string (S s)] 9)).heap.size = w.heap.size + 3 := by simp
  simp only [World.size_alloc] at B1 B2 ⊢
  obtain ⟨W0, hW0⟩ : ∃ x, (((w.alloc (.cells #[.int .i64 0] 3)).alloc (.cells #[.int .i64 0] 24)).alloc (.cells #[.string (S s)] 9)) = x := ⟨_, rfl⟩
  rw [hW0] at B0 B1 B2 hB0 hz0 ⊢
  clear hW0 HLN
  refine wpIn_rangeFunc_ownF rfl (by omega) (gf := 34) (lb := #[.pointer (some ⟨w.heap.size + 1 + 1, 0, none⟩)]) rfl trivial (enters_of Tryd.func34 (by kernel_rfl) rfl)
    (lines_stops (w.heap.size + 1 + 1) s (by omega) W0 (by omega) B2.cell) keepsB_t (keepsB_b (by omega)) (Below.refl _ _) (fun _ => rfl)
    (EndI w s) (EndX w s) (endI_own w s (by omega)) (endX_own w s (by omega)) ?h0 ?a1 ?assign ?body ?done ?stop
  case assign =>
    intro l x W K hK
    gi_wp2
    exact hK
  case h0 => exact ⟨⟨fun r => rfl, B0, B1, B2⟩, hB0⟩
  case body =>
    rintro l pre ⟨⟨b, q⟩, hb1, hb2⟩ W ⟨⟨hpa, b0, b1, b2⟩, hB⟩ hlen
    have hvs : vals (pre ++ [(⟨(b, q), hb1, hb2⟩ : Ln s.length)]) = vals pre ++ [(b, q)] := vals_snoc _ _
    have HP := Lib.hid (show ∀ r, endH s.length (vals (pre ++ [(⟨(b, q), hb1, hb2⟩ : Ln s.length)]) ++ r) = (if 4000 < q then (0, 2) else if b = [] then (q, 0) else endH s.length r) from fun r => by
      rw [hvs, List.append_assoc, hpa]; rfl)
    have hqm : (q : Int) ≤ 9223372036854775807 := by have : q ≤ s.length := hb2; omega
    have HB0 := Lib.hid b0
    have HB1 := Lib.hid b1
    have HB2 := Lib.hid b2
    have HB := Lib.hid hB
    have d0 := b0.cell
    have e0 := b0.frozen
    have d1 := b1.cell
    have e1 := b1.frozen
    clear hpa hvs b0 b1 b2 hB B0 B1 B2 hB0
    by_cases hq : 4000 < q
    · have hq1 : (4000 : Int) < (q : Int) := by omega
      gi_wp2
      exact ⟨(KeepsOthers.setCell _ _ _).trans (KeepsOthers.setCell _ _ _), ⟨rfl, 0, 2, fun r => by rw [HP.out, if_pos hq], box_unset (Boxed.set _ HB0.out) _ (by omega), Boxed.set _ (box_unset HB1.out _ (by omega))⟩, (HB.out.setCell (p := ⟨w.heap.size, 0, none⟩) (Nat.le_refl _) _).setCell (p := ⟨w.heap.size + 1, 0, none⟩) (show w.heap.size ≤ w.heap.size + 1 by omega) _⟩
    · have hq1 : (q : Int) ≤ 4000 := by omega
      by_cases hb : b = []
      · have hbe : b.isEmpty = true := by rw [hb]; rfl
        have HBN := Lib.hid hb
        clear hb
        gi_wp2
        exact ⟨(KeepsOthers.setCell _ _ _).trans (KeepsOthers.setCell _ _ _), ⟨rfl, q, 0, fun r => by rw [HP.out, if_neg hq, if_pos HBN.out], box_unset (Boxed.set _ HB0.out) _ (by omega), Boxed.set _ (box_unset HB1.out _ (by omega))⟩, (HB.out.setCell (p := ⟨w.heap.size, 0, none⟩) (Nat.le_refl _) _).setCell (p := ⟨w.heap.size + 1, 0, none⟩) (show w.heap.size ≤ w.heap.size + 1 by omega) _⟩
      · have hbe : b.isEmpty = false := by cases b with
          | nil => exact absurd rfl hb
          | cons a t => rfl
        have HBN := Lib.hid hb
        clear hb
        gi_wp2
        exact ⟨KeepsOthers.refl _, rfl, ⟨fun r => by rw [HP.out, if_neg hq, if_neg HBN.out], HB0.out, HB1.out, HB2.out⟩, HB.out⟩
  case done =>
    rintro D ys W hD hS ⟨⟨hpa, b0, b1, b2⟩, hB⟩ hK
    have hall : headEnd s = if 4000 < s.length then (0, 2) else (0, 3) := by
      unfold headEnd
      have := hpa []
      rw [List.append_nil, hS] at this
      rw [this]; rfl
    have HPA := Lib.hid hall
    have HB0 := Lib.hid b0
    have HB1 := Lib.hid b1
    have d0 := b0.cell
    have e0 := b0.frozen
    have d1 := b1.cell
    have e1 := b1.frozen
    clear hpa b0 b1 b2 hall
    by_cases hl : 4000 < s.length
    · have hl1 : (4000 : Int) < (s.length : Int) := by omega
      gi_wp2
      have hK' := ((KeepsOthers.setCell W ⟨w.heap.size, 0, none⟩ (.int .i64 0)).trans (KeepsOthers.setCell _ ⟨w.heap.size + 1, 0, none⟩ (.int .i64 2))).same D _ hK rfl
      refine ⟨by simp, .inl ⟨_, _, rfl, run_takeDeferred hK', ?_⟩⟩
      have q0 := cell_kept (box_unset (Boxed.set (.int .i64 0) HB0.out) (.int .i64 2) (show w.heap.size ≠ w.heap.size + 1 by omega)).cell (grownBy_putObj' _ D (.deferred none)) (fun r e => by cases e; exact ⟨_, hK', rfl⟩)
      have q1 := cell_kept (Boxed.set (.int .i64 2) (box_unset HB1.out (.int .i64 0) (show w.heap.size + 1 ≠ w.heap.size by omega))).cell (grownBy_putObj' _ D (.deferred none)) (fun r e => by cases e; exact ⟨_, hK', rfl⟩)
      rw [HPA.out, if_pos hl]
      refine ⟨.tuple #[.int .i64 0, .int .i64 2], ?_, rfl, ?_⟩
      · simp [results, Tryd.f14, go_sem, q0, q1]
      · exact ((hB.setCell (p := ⟨w.heap.size, 0, none⟩) (Nat.le_refl _) _).setCell (p := ⟨w.heap.size + 1, 0, none⟩) (show w.heap.size ≤ w.heap.size + 1 by omega) _).trans (belowK_b (w := w) (Nat.le_refl _) _ D _ _ (by omega) hK' rfl rfl)
    · have hl1 : (s.length : Int) ≤ 4000 := by omega
      gi_wp2
      have hK' := ((KeepsOthers.setCell W ⟨w.heap.size, 0, none⟩ (.int .i64 0)).trans (KeepsOthers.setCell _ ⟨w.heap.size + 1, 0, none⟩ (.int .i64 3))).same D _ hK rfl
      refine ⟨by simp, .inl ⟨_, _, rfl, run_takeDeferred hK', ?_⟩⟩
      have q0 := cell_kept (box_unset (Boxed.set (.int .i64 0) HB0.out) (.int .i64 3) (show w.heap.size ≠ w.heap.size + 1 by omega)).cell (grownBy_putObj' _ D (.deferred none)) (fun r e => by cases e; exact ⟨_, hK', rfl⟩)
      have q1 := cell_kept (Boxed.set (.int .i64 3) (box_unset HB1.out (.int .i64 0) (show w.heap.size + 1 ≠ w.heap.size by omega))).cell (grownBy_putObj' _ D (.deferred none)) (fun r e => by cases e; exact ⟨_, hK', rfl⟩)
      rw [HPA.out, if_neg hl]
      refine ⟨.tuple #[.int .i64 0, .int .i64 3], ?_, rfl, ?_⟩
      · simp [results, Tryd.f14, go_sem, q0, q1]
      · exact ((hB.setCell (p := ⟨w.heap.size, 0, none⟩) (Nat.le_refl _) _).setCell (p := ⟨w.heap.size + 1, 0, none⟩) (show w.heap.size ≤ w.heap.size + 1 by omega) _).trans (belowK_b (w := w) (Nat.le_refl _) _ D _ _ (by omega) hK' rfl rfl)
  case stop =>
    rintro D c pre W hD hpre ⟨⟨rfl, n, e, hpa, b0, b1⟩, hB⟩ hK
    obtain ⟨r, hr⟩ := hpre
    have HPA := Lib.hid (show headEnd s = (n, e) by unfold headEnd; rw [← hr]; exact hpa r)
    clear hpa hr
    gi_wp2
    refine ⟨by simp, .inl ⟨_, _, rfl, run_takeDeferred hK, ?_⟩⟩
    rw [HPA.out]
    have q0 := cell_kept b0.cell (grownBy_putObj' _ D (.deferred none)) (fun r e => by cases e; exact ⟨_, hK, rfl⟩)
    have q1 := cell_kept b1.cell (grownBy_putObj' _ D (.deferred none)) (fun r e => by cases e; exact ⟨_, hK, rfl⟩)
    refine ⟨.tuple #[.int .i64 n, .int .i64 e], ?_, rfl, hB.trans (belowK_b (w := w) (Nat.le_refl _) W D _ _ (by omega) hK rfl rfl)⟩
    simp [results, Tryd.f14, go_sem, q0, q1]
end Go.Proofs.YtpklbelhdfkjpaaDoor
