/- strings.Contains and strings.Cut at one byte. -/
import Derived.Test.YtngaofoedkankaaDoorStrs
namespace Go.Proofs.YtngaofoedkankaaDoor
open Go.RowKit Go.Sort Go.Shelf
set_option linter.unusedVariables false

def cut1 (l : List UInt8) (c : UInt8) : List UInt8 × List UInt8 × Bool :=
  if 0 ≤ Lib.indexByte l c then (l.take (Lib.indexByte l c).toNat, l.drop ((Lib.indexByte l c).toNat + 1), true) else (l, [], false)

theorem contains1_S {l : List UInt8} {c : UInt8} {b : Bool} (h : decide (0 ≤ Lib.indexByte l c) = b) (w : World) : Calls Tryd.prog 34 #[.string (S l), .string (S [c])] w fun e w' => e = .returned (.bool b) ∧ w' = w :=
  (Tryd.strings_Contains_one (S l) c w).mono fun e w' ⟨h1, h2⟩ => ⟨h1.trans (by rw [S_data, h]), h2⟩
theorem index1_S (l : List UInt8) (c : UInt8) (w : World) : Calls Tryd.prog 63 #[.string (S l), .string (S [c])] w fun e w' => e = .returned (.int .i64 (Lib.indexByte l c)) ∧ w' = w :=
  (Tryd.stringslite_Index_one (S l) c w).mono fun e w' ⟨h1, h2⟩ => ⟨h1.trans (by rw [S_data]), h2⟩

theorem indexByte_lt (l : List UInt8) (c : UInt8) : Lib.indexByte l c < l.length := by
  have := Lib.indexByte_ge l c
  by_cases h : Lib.indexByte l c = -1
  · omega
  · obtain ⟨i, hi⟩ : ∃ i : Nat, Lib.indexByte l c = i := ⟨(Lib.indexByte l c).toNat, by omega⟩
    obtain ⟨h1, _⟩ := Lib.indexByte_some hi
    have := (List.getElem?_eq_some_iff.1 h1).1
    omega

set_option maxHeartbeats 800000 in
theorem liteCut (l : List UInt8) (c : UInt8) (hl : l.length ≤ 4611686018427387903) (w : World) : Calls Tryd.prog 64 #[.string (S l), .string (S [c])] w fun e w' => e = .returned (.tuple #[.string (S (cut1 l c).1), .string (S (cut1 l c).2.1), .bool (cut1 l c).2.2]) ∧ Below w.heap.size w w' := by
  have HI := Lib.hid (index1_S l c)
  unfold cut1
  have hlt := indexByte_lt l c
  have hge := Lib.indexByte_ge l c
  obtain ⟨i, hi⟩ : ∃ i, Lib.indexByte l c = i := ⟨_, rfl⟩
  rw [hi] at HI hlt hge ⊢
  clear hi
  by_cases h0 : 0 ≤ i
  · rw [if_pos h0]
    obtain ⟨k, rfl⟩ : ∃ k : Nat, i = k := ⟨i.toNat, by omega⟩
    go_enter Tryd.func64, Tryd.ntmps64
    go_wp2_with (go_at_call 63; refine (HI.out _).mono ?_; rintro e w' ⟨rfl, rfl⟩)
    go_region
    all_goals
      go_wp2
      go_ret3
      exact ⟨by first | rfl | (simp; done) | (congr 3; simp <;> omega), by (repeat (first | (with_reducible exact Below.refl _ _) | (with_reducible assumption) | (with_reducible refine Below.drew ?_) | (focus ((with_reducible refine Below.setCell ?_ ?_ _); rotate_left; (first | omega | (simp <;> omega)))) | (focus ((with_reducible refine Below.alloc ?_ ?_ _); rotate_left; (first | omega | (simp <;> omega)))) | exact Below.refl _ _ | assumption | refine Below.drew ?_ | refine Below.alloc ?_ (by first | omega | (simp <;> omega)) _ | refine Below.setCell ?_ (by first | omega | (simp <;> omega)) _))⟩
  · rw [if_neg h0]
    go_enter Tryd.func64, Tryd.ntmps64
    go_wp2_with (go_at_call 63; refine (HI.out _).mono ?_; rintro e w' ⟨rfl, rfl⟩)
    go_ret3
    exact ⟨by first | rfl | (simp; done), by (repeat (first | (with_reducible exact Below.refl _ _) | (with_reducible assumption) | (with_reducible refine Below.drew ?_) | (focus ((with_reducible refine Below.setCell ?_ ?_ _); rotate_left; (first | omega | (simp <;> omega)))) | (focus ((with_reducible refine Below.alloc ?_ ?_ _); rotate_left; (first | omega | (simp <;> omega)))) | exact Below.refl _ _ | assumption | refine Below.drew ?_ | refine Below.alloc ?_ (by first | omega | (simp <;> omega)) _ | refine Below.setCell ?_ (by first | omega | (simp <;> omega)) _))⟩

set_option maxHeartbeats 800000 in
theorem cut1_S {l a b : List UInt8} {c : UInt8} {t : Bool} (h : cut1 l c = (a, b, t)) (hl : l.length ≤ 4611686018427387903) (w : World) : Calls Tryd.prog 52 #[.string (S l), .string (S [c])] w fun e w' => e = .returned (.tuple #[.string (S a), .string (S b), .bool t]) ∧ Below w.heap.size w w' := by
  have hc := fun W => liteCut l c hl W
  rw [h] at hc
  have HC := Lib.hid hc
  clear hc h
  go_enter Tryd.func52, Tryd.ntmps52
  go_wp2_with (go_at_call 64; refine (HC.out _).mono ?_; rintro e w' ⟨rfl, hb⟩)
  go_ret3
  exact ⟨rfl, by (repeat (first | (with_reducible exact Below.refl _ _) | (with_reducible assumption) | (with_reducible refine Below.drew ?_) | (focus ((with_reducible refine Below.setCell ?_ ?_ _); rotate_left; (first | omega | (simp <;> omega)))) | (focus ((with_reducible refine Below.alloc ?_ ?_ _); rotate_left; (first | omega | (simp <;> omega)))) | exact Below.refl _ _ | assumption | refine Below.drew ?_ | refine Below.alloc ?_ (by first | omega | (simp <;> omega)) _ | refine Below.setCell ?_ (by first | omega | (simp <;> omega)) _))⟩
end Go.Proofs.YtngaofoedkankaaDoor
