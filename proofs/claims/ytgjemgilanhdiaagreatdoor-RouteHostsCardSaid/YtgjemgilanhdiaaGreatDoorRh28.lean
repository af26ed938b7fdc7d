/- Which routes fit, which of two is better: the closures of Find. -/
import Derived.Test.YtgjemgilanhdiaaGreatDoorRh27
import Derived.Test.YtgjemgilanhdiaaGreatDoorRh21
import Derived.Test.YtgjemgilanhdiaaGreatDoorRh2
namespace Go.Proofs.YtgjemgilanhdiaaGreatDoor
open Go.RowKit Go.Sort Go.Shelf
set_option linter.unusedVariables false
set_option linter.unusedSimpArgs false

set_option maxHeartbeats 1600000 in
set_option maxRecDepth 100000 in
theorem fit1 (f : Wrd) (g k : Nat) (host path : List UInt8) (w : World) (hc : w.cell? ⟨g, 0, none⟩ = some (.string (S host))) (hk : w.cell? ⟨k, 0, none⟩ = some (.string (S path))) (hg : g < w.heap.size) (hkk : k < w.heap.size) :
    Calls Tryz.prog 15 #[rtv f, .pointer (some ⟨g, 0, none⟩), .pointer (some ⟨k, 0, none⟩)] w fun e w' => e = .returned (.bool (!fitB host path f)) ∧ Below w.heap.size w w' := by
  obtain ⟨n, p, o⟩ := f
  unfold fitB
  simp only
  have C := Lib.hid (fun W => hasPrefix_S (s := path) (p := p) rfl W)
  have hfar := far hg
  have hfar2 := far hkk
  obtain ⟨b1, h1⟩ : ∃ b, n.isEmpty = b := ⟨_, rfl⟩
  obtain ⟨b2, h2⟩ : ∃ b, (n == host) = b := ⟨_, rfl⟩
  obtain ⟨b3, h3⟩ : ∃ b, Lib.hasPrefix path p = b := ⟨_, rfl⟩
  have h4 : (n != host) = !b2 := by simp only [bne, h2]
  rw [h3] at C
  rw [h1, h2, h3]
  have HH := Lib.hid h3
  clear h3
  go_enter Tryz.func15, Tryz.ntmps15
  cases b1 <;> cases b2 <;> cases b3 <;>
  · go_wp2_with (go_at_call 16; refine (C.out _).mono ?_; rintro e w1 ⟨rfl, hw1⟩; obtain rfl := hw1.symm)
    go_ret
    exact ⟨rfl, by (repeat (first | (with_reducible exact Below.refl _ _) | (with_reducible assumption) | (with_reducible refine Below.drew ?_) | (focus ((with_reducible refine Below.setCell ?_ ?_ _); rotate_left; (first | omega | (simp <;> omega)))) | (focus ((with_reducible refine Below.alloc ?_ ?_ _); rotate_left; (first | omega | (simp <;> omega)))) | exact Below.refl _ _ | assumption | refine Below.drew ?_ | refine Below.alloc ?_ (by first | omega | (simp <;> omega)) _ | refine Below.setCell ?_ (by first | omega | (simp <;> omega)) _))⟩
theorem cmp_len (a b : Wrd) : cmpR a b = if (a.2.1.length : Int) - b.2.1.length ≠ 0 then (a.2.1.length : Int) - b.2.1.length else Lib.compareBytes a.1 b.1 := rfl
set_option maxHeartbeats 1600000 in
set_option maxRecDepth 100000 in
theorem cmp2 (a b : Wrd) (ha : a.2.1.length ≤ 9223372036854775807) (hb : b.2.1.length ≤ 9223372036854775807) (w : World) :
    Calls Tryz.prog 18 #[rtv a, rtv b] w fun e w' => e = .returned (.int .i64 (cmpR a b)) ∧ Below w.heap.size w w' := by
  have hE := Lib.hid (cmp_len a b)
  obtain ⟨a1, a2, a3⟩ := a
  obtain ⟨b1, b2, b3⟩ := b
  simp only at ha hb
  have C := Lib.hid (fun W => Tryz.strings_Compare (S a1) (S b1) W)
  have hw : IntKind.i64.wrap ((a2.length : Int) - b2.length) = (a2.length : Int) - b2.length := by rw [IntKind.wrap_i64]; omega
  by_cases h : (a2.length : Int) - b2.length = 0
  · have h1 : ((a2.length : Int) - b2.length == 0) = true := by simp [h]
    have h2 : ((a2.length : Int) - b2.length != 0) = false := by simp [h]
    have hE2 := Lib.hid (show cmpR (a1, a2, a3) (b1, b2, b3) = Lib.compareBytes a1 b1 by rw [hE.out]; show (if (a2.length : Int) - b2.length ≠ 0 then (a2.length : Int) - b2.length else Lib.compareBytes a1 b1) = _; rw [if_neg (by omega)])
    go_enter Tryz.func18, Tryz.ntmps18
    go_wp2_with (go_at_call 19; refine (C.out _).mono ?_; rintro e w1 ⟨rfl, hw1⟩; obtain rfl := hw1.symm)
    go_ret
    exact ⟨by rw [hE2.out]; rfl, by (repeat (first | (with_reducible exact Below.refl _ _) | (with_reducible assumption) | (with_reducible refine Below.drew ?_) | (focus ((with_reducible refine Below.setCell ?_ ?_ _); rotate_left; (first | omega | (simp <;> omega)))) | (focus ((with_reducible refine Below.alloc ?_ ?_ _); rotate_left; (first | omega | (simp <;> omega)))) | exact Below.refl _ _ | assumption | refine Below.drew ?_ | refine Below.alloc ?_ (by first | omega | (simp <;> omega)) _ | refine Below.setCell ?_ (by first | omega | (simp <;> omega)) _))⟩
  · have h1 : ((a2.length : Int) - b2.length == 0) = false := by simp [h]
    have h2 : ((a2.length : Int) - b2.length != 0) = true := by simp [h]
    have hE2 := Lib.hid (show cmpR (a1, a2, a3) (b1, b2, b3) = (a2.length : Int) - b2.length by rw [hE.out]; show (if (a2.length : Int) - b2.length ≠ 0 then (a2.length : Int) - b2.length else Lib.compareBytes a1 b1) = _; rw [if_pos h])
    go_enter Tryz.func18, Tryz.ntmps18
    go_wp2
    go_ret
    exact ⟨by rw [hE2.out]; rfl, by (repeat (first | (with_reducible exact Below.refl _ _) | (with_reducible assumption) | (with_reducible refine Below.drew ?_) | (focus ((with_reducible refine Below.setCell ?_ ?_ _); rotate_left; (first | omega | (simp <;> omega)))) | (focus ((with_reducible refine Below.alloc ?_ ?_ _); rotate_left; (first | omega | (simp <;> omega)))) | exact Below.refl _ _ | assumption | refine Below.drew ?_ | refine Below.alloc ?_ (by first | omega | (simp <;> omega)) _ | refine Below.setCell ?_ (by first | omega | (simp <;> omega)) _))⟩
end Go.Proofs.YtgjemgilanhdiaaGreatDoor
