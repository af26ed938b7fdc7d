/- strings.Contains and strings.Cut at one byte. The closure that pairs.Query hands to parts: the walk. -/
import Derived.Test.YtenflcaalckdfaaGreatDoorVv4
import Derived.Test.YtenflcaalckdfaaGreatDoorVv7
import Derived.Test.YtenflcaalckdfaaGreatDoorVv8
import Derived.RangeFuncBox
import Derived.Deep.RegionLaw
import Derived.Deep.DeepCutAuto
namespace Go.Proofs.YtenflcaalckdfaaGreatDoor
open Go.RowKit Go.Sort Go.Shelf
set_option linter.unusedVariables false

def cut1 (l : List UInt8) (c : UInt8) : List UInt8 × List UInt8 × Bool :=
  if 0 ≤ Lib.indexByte l c then (l.take (Lib.indexByte l c).toNat, l.drop ((Lib.indexByte l c).toNat + 1), true) else (l, [], false)

theorem contains1_S {l : List UInt8} {c : UInt8} {b : Bool} (h : decide (0 ≤ Lib.indexByte l c) = b) (w : World) : Calls Tryz.prog 92 #[.string (S l), .string (S [c])] w fun e w' => e = .returned (.bool b) ∧ w' = w :=
  (Tryz.strings_Contains_one (S l) c w).mono fun e w' ⟨h1, h2⟩ => ⟨h1.trans (by rw [S_data, h]), h2⟩
theorem index1_S (l : List UInt8) (c : UInt8) (w : World) : Calls Tryz.prog 54 #[.string (S l), .string (S [c])] w fun e w' => e = .returned (.int .i64 (Lib.indexByte l c)) ∧ w' = w :=
  (Tryz.stringslite_Index_one (S l) c w).mono fun e w' ⟨h1, h2⟩ => ⟨h1.trans (by rw [S_data]), h2⟩

theorem indexByte_lt (l : List UInt8) (c : UInt8) : Lib.indexByte l c < l.length := by
  have := Lib.indexByte_ge l c
  by_cases h : Lib.indexByte l c = -1
  · omega
  · obtain ⟨i, hi⟩ : ∃ i : Nat, Lib.indexByte l c = i := ⟨(Lib.indexByte l c).toNat, by omega⟩
    obtain ⟨h1, _⟩ := Lib.indexByte_some hi
    have := (List.getElem?_eq_some_iff.1 h1).1
    omega

set_option maxHeartbeats 800000 in
theorem liteCut (l : List UInt8) (c : UInt8) (hl : l.length ≤ 4611686018427387903) (w : World) : Calls Tryz.prog 53 #[.string (S l), .string (S [c])] w fun e w' => e = .returned (.tuple #[.string (S (cut1 l c).1), .string (S (cut1 l c).2.1), .bool (cut1 l c).2.2]) ∧ Below w.heap.size w w' := by
  have HI := Lib.hid (index1_S l c)
  unfold cut1
  have hlt := indexByte_lt l c
  have hge := Lib.indexByte_ge l c
  obtain ⟨i, hi⟩ : ∃ i, Lib.indexByte l c = i := ⟨_, rfl⟩
  rw [hi] at HI hlt hge ⊢
  clear hi
  by_cases h0 : 0 ≤ i
  · rw [if_pos h0]
    obtain ⟨k, rfl⟩ : ∃ k : Nat, i = k := ⟨i.toNat, by omega⟩
    go_enter Tryz.func53, Tryz.ntmps53
    go_wp2_with (go_at_call 54; refine (HI.out _).mono ?_; rintro e w' ⟨rfl, rfl⟩)
    go_region
    all_goals
      go_wp2
      go_ret3
      exact ⟨by first | rfl | (simp; done) | (congr 3; simp <;> omega), by (repeat (first | with_reducible exact Below.refl _ _ | with_reducible assumption | with_reducible refine Below.drew ?_ | (with_reducible refine Below.setCell ?_ ?_ _; rotate_left; (first | omega | (simp <;> omega))) | (with_reducible refine Below.alloc ?_ ?_ _; rotate_left; (first | omega | (simp <;> omega))) | exact Below.refl _ _ | assumption))⟩
  · rw [if_neg h0]
    go_enter Tryz.func53, Tryz.ntmps53
    go_wp2_with (go_at_call 54; refine (HI.out _).mono ?_; rintro e w' ⟨rfl, rfl⟩)
    go_ret3
    exact ⟨by first | rfl | (simp; done), by (repeat (first | with_reducible exact Below.refl _ _ | with_reducible assumption | with_reducible refine Below.drew ?_ | (with_reducible refine Below.setCell ?_ ?_ _; rotate_left; (first | omega | (simp <;> omega))) | (with_reducible refine Below.alloc ?_ ?_ _; rotate_left; (first | omega | (simp <;> omega))) | exact Below.refl _ _ | assumption))⟩

set_option maxHeartbeats 800000 in
theorem cut1_S {l a b : List UInt8} {c : UInt8} {t : Bool} (h : cut1 l c = (a, b, t)) (hl : l.length ≤ 4611686018427387903) (w : World) : Calls Tryz.prog 25 #[.string (S l), .string (S [c])] w fun e w' => e = .returned (.tuple #[.string (S a), .string (S b), .bool t]) ∧ Below w.heap.size w w' := by
  have hc := fun W => liteCut l c hl W
  rw [h] at hc
  have HC := Lib.hid hc
  clear hc h
  go_enter Tryz.func25, Tryz.ntmps25
  go_wp2_with (go_at_call 53; refine (HC.out _).mono ?_; rintro e w' ⟨rfl, hb⟩)
  go_ret3
  exact ⟨rfl, by (repeat (first | with_reducible exact Below.refl _ _ | with_reducible assumption | with_reducible refine Below.drew ?_ | (with_reducible refine Below.setCell ?_ ?_ _; rotate_left; (first | omega | (simp <;> omega))) | (with_reducible refine Below.alloc ?_ ?_ _; rotate_left; (first | omega | (simp <;> omega))) | exact Below.refl _ _ | assumption))⟩
end Go.Proofs.YtenflcaalckdfaaGreatDoor
namespace Go.Proofs.YtenflcaalckdfaaGreatDoor
open Go.RowKit Go.Sort Go.Shelf
set_option linter.unusedVariables false

theorem cut1_len (l : List UInt8) (c : UInt8) : (cut1 l c).1.length ≤ l.length ∧ (cut1 l c).2.1.length ≤ l.length := by
  unfold cut1
  split
  · simp; omega
  · simp
theorem box_under {W W' : World} {B : Nat} {t : TypeId} {v : Value} (h : Boxed W B t v) (hb : Below W.heap.size W W') : Boxed W' B t v := (hb.block B h.lt).trans h
theorem step_append_one {ops : Array Oper} {o : Oper} {a : Act} {K : Act → World → Prop} {Q : Exit → Act → World → Prop} {E : Prop} (hgd : o.guard = none) (s x : Operand)
    (ho : o.op = .call { callee := .builtin .append, args := #[s, x], argTypes := #[66, 66] })
    (W : World) (B : Nat) (v : Value) (L : List Fld) (f : Fld) (hown : OwnsF W B v L) (hs : a.eval s = v) (g : Nat) (hx : a.eval x = .slice (some ⟨g, 0, none⟩) 1 1)
    (hc1 : W.cell? ⟨g, 0, none⟩ = some (.string (S f.1))) (hc2 : W.cell? ⟨g, 1, none⟩ = some (.string (S f.2))) (hn : L.length ≤ 2199023255552) (hB : B ≤ W.heap.size)
    (h : ∀ v' w', OwnsF w' B v' (L ++ [f]) → W.grownBy w' v.ownBlock → K (a.put o.dst v') w') : if Region.wanted o (yielded ops a.tmps) = true then Oper.wp Tryz.prog o a W K Q else E := by
  have hw : Region.wanted o (yielded ops a.tmps) = true := by simp [Region.wanted, hgd]
  rw [if_pos hw]
  obtain ⟨i0, hi, hz0, hz1, hz2⟩ := info_parts infoFld
  have hown' : W.ownsRow B 87 2 v L.length (L.flatMap fcells) := hown
  have hpc : ∀ j u, (fcells f)[j]? = some u → W.cell? ((⟨g, 0, none⟩ : Addr).add j) = some u := by
    intro j u hj
    match j, hj with
    | 0, hj => simp [fcells] at hj; subst hj; simpa [Addr.add] using hc1
    | 1, hj => simp [fcells] at hj; subst hj; simpa [Addr.add] using hc2
  obtain ⟨v', w', hrun, r1, r2, _⟩ := run_append_own (P := Tryz.prog) W B 66 o.type 87 i0 (.agg #[.string ⟨#[]⟩, .string ⟨#[]⟩]) 2 32 Tryz.underlying66 hi hz0 hz1 hz2 rfl (by decide) v L.length _ hown' ⟨g, 0, none⟩ 1 1 (fcells f) rfl hpc (by intro u hu; simp [fcells] at hu; rcases hu with rfl | rfl <;> rfl) (by unfold maxLen; omega) (by omega) hB
  unfold Oper.wp
  simp [execOp, ho, resolve, invoke, builtin, hs, hx, hrun, Result.andThen]
  exact h _ _ (by unfold OwnsF; simpa using r1) r2

def PairBox (base bx : Nat) (L : List Fld) (W : World) : Prop := ∃ v, Boxed W bx 66 v ∧ OwnsF W base v L
def pairOf (p : List UInt8) : Fld := (plainL (cut1 p 61).1, plainL (cut1 p 61).2.1)

set_option maxHeartbeats 1600000 in
set_option maxRecDepth 100000 in
theorem queryClo (bx base : Nat) (hbb : bx < base) (L : List Fld) (p : List UInt8) (hp : p.length ≤ 1000000) (w : World) (hbase : base ≤ w.heap.size) (h : PairBox base bx L w) (hl : L.length ≤ 1099511627776) :
    Calls Tryz.prog 102 #[.string (S p), .pointer (some ⟨bx, 0, none⟩)] w fun e w' => (∃ r, e = .returned r) ∧ PairBox base bx (L ++ [pairOf p]) w' ∧ Below bx w w' ∧ ∀ k, bx < k → k < base → w'.heap[k]? = w.heap[k]? := by
  obtain ⟨v, hbox, hown⟩ := h
  unfold pairOf
  obtain ⟨h1, h2⟩ := cut1_len p 61
  obtain ⟨⟨a, b, t⟩, hc⟩ : ∃ x, cut1 p 61 = x := ⟨_, rfl⟩
  rw [hc] at h1 h2 ⊢
  simp only at h1 h2 ⊢
  have CU := Lib.hid (fun W => cut1_S hc (by omega) W)
  have PA := Lib.hid (fun W => pairsPlain a (by omega) W)
  have PB := Lib.hid (fun W => pairsPlain b (by omega) W)
  obtain ⟨pa, hpa⟩ : ∃ x, plainL a = x := ⟨_, rfl⟩
  obtain ⟨pb, hpb⟩ : ∃ x, plainL b = x := ⟨_, rfl⟩
  rw [hpa] at PA
  rw [hpb] at PB
  rw [hpa, hpb]
  have HO := Lib.hid hown
  have HX := Lib.hid hbox
  have c0 := hbox.cell
  have f0 := hbox.frozen
  have l0 := hbox.lt
  obtain ⟨ao, cap, rfl, _⟩ := hown.reads
  clear hc hpa hpb hown hbox
  go_enter Tryz.func102, Tryz.ntmps102
  go_wp2_with (go_at_call 25; refine Calls.mono (CU.out _) ?_; rintro e w1 ⟨rfl, hb1⟩; have c1 := (hb1.cell (p := ⟨bx, 0, none⟩) l0).trans c0; have hz1 := hb1.size; have fr1 := far (show bx < w1.heap.size by omega))
  go_region_law (first
    | (go_simp; go_at_call 103; with_reducible refine Calls.mono (PA.out _) ?_; rintro e w2 ⟨rfl, hb2⟩; have hbw2 := Below.trans (show Below w.heap.size w _ by (repeat (first | with_reducible exact Below.refl _ _ | with_reducible assumption | with_reducible refine Below.drew ?_ | (with_reducible refine Below.setCell ?_ ?_ _; rotate_left; (first | omega | (simp <;> omega))) | (with_reducible refine Below.alloc ?_ ?_ _; rotate_left; (first | omega | (simp <;> omega))) | exact Below.refl _ _ | assumption))) (hb2.mono (by (first | omega | (simp <;> omega)))); have hz2 := hbw2.size; have fr2 := far (show bx < w2.heap.size by omega); have c2 := (hbw2.cell (p := ⟨bx, 0, none⟩) l0).trans c0)
    | (go_simp; go_at_call 103; with_reducible refine Calls.mono (PB.out _) ?_; rintro e w3 ⟨rfl, hb3⟩; have hbw3 := Below.trans (show Below w.heap.size w _ by (repeat (first | with_reducible exact Below.refl _ _ | with_reducible assumption | with_reducible refine Below.drew ?_ | (with_reducible refine Below.setCell ?_ ?_ _; rotate_left; (first | omega | (simp <;> omega))) | (with_reducible refine Below.alloc ?_ ?_ _; rotate_left; (first | omega | (simp <;> omega))) | exact Below.refl _ _ | assumption))) (hb3.mono (by (first | omega | (simp <;> omega)))); have hz3 := hbw3.size; have fr3 := far (show bx < w3.heap.size by omega); have c3 := (hbw3.cell (p := ⟨bx, 0, none⟩) l0).trans c0)
    | (refine step_append_one rfl _ _ rfl _ base _ L (pa, pb) (HO.out.below (show Below w.heap.size w _ by (repeat (first | with_reducible exact Below.refl _ _ | with_reducible assumption | with_reducible refine Below.drew ?_ | (with_reducible refine Below.setCell ?_ ?_ _; rotate_left; (first | omega | (simp <;> omega))) | (with_reducible refine Below.alloc ?_ ?_ _; rotate_left; (first | omega | (simp <;> omega))) | exact Below.refl _ _ | assumption)))) rfl _ rfl (by simp) (by simp) (by omega) (by (first | omega | (simp <;> omega))) ?_; intro v4 w4 hown4 hg4; have HO4 := Lib.hid hown4; have hb4 := Below.grown (show Below base w _ from Below.mono (show Below w.heap.size w _ by (repeat (first | with_reducible exact Below.refl _ _ | with_reducible assumption | with_reducible refine Below.drew ?_ | (with_reducible refine Below.setCell ?_ ?_ _; rotate_left; (first | omega | (simp <;> omega))) | (with_reducible refine Below.alloc ?_ ?_ _; rotate_left; (first | omega | (simp <;> omega))) | exact Below.refl _ _ | assumption))) hbase) hg4 (by (first | omega | (simp <;> omega))) (fun k e => (World.ownsRow.lt HO.out k e).1); have HB4 := Lib.hid hb4; have B4 := Boxed.kept (box_under HX.out (show Below w.heap.size w _ by (repeat (first | with_reducible exact Below.refl _ _ | with_reducible assumption | with_reducible refine Below.drew ?_ | (with_reducible refine Below.setCell ?_ ?_ _; rotate_left; (first | omega | (simp <;> omega))) | (with_reducible refine Below.alloc ?_ ?_ _; rotate_left; (first | omega | (simp <;> omega))) | exact Below.refl _ _ | assumption)))) hg4 (fun e => by have := (World.ownsRow.lt HO.out bx e.symm).1; omega); have c4 := B4.cell; have f4 := B4.frozen; obtain ⟨ao4, cap4, rfl, _⟩ := hown4.reads; have HX4 := Lib.hid B4; clear hown4 hg4 hb4 B4))
  all_goals
    go_wp2
    go_end0
    have hown5 : OwnsF w4 base (.slice ao4 (L.length + 1) cap4) (L ++ [(pa, pb)]) := by simpa using HO4.out
    refine ⟨⟨_, rfl⟩, ⟨_, Boxed.set _ HX4.out, World.ownsRow.kept hown5 (grownBy_setCell' w4 bx _) (.inr fun e => by have := (World.ownsRow.lt hown5 bx e).1; omega)⟩, (HB4.out.mono (show bx ≤ base by omega)).setCell (p := ⟨bx, 0, none⟩) (Nat.le_refl bx) _, fun k hk1 hk2 => (Below.heap_setCell _ _ _ k (show k ≠ bx by omega)).trans (HB4.out.block k hk2)⟩
end Go.Proofs.YtenflcaalckdfaaGreatDoor
