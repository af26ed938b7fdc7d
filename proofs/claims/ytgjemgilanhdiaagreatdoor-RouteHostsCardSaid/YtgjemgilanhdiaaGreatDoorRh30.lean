/- Two addresses compared; which route may be: the walk (uv_eql builds; routeRight under way). -/
import Derived.Test.YtgjemgilanhdiaaGreatDoorRh23
import Derived.Test.YtgjemgilanhdiaaGreatDoorRh29
import Derived.Laws.StructEq
namespace Go.Proofs.YtgjemgilanhdiaaGreatDoor
open Go.RowKit Go.Sort Go.Shelf
set_option linter.unusedVariables false
set_option linter.unusedSimpArgs false

set_option maxHeartbeats 1600000 in
theorem uv_eql (x y : UU) (w : World) : (binOp .eql 33 (uv x.a x.h x.n x.p x.q x.y) (uv y.a y.h y.n y.p y.q y.y)).run Tryz.prog w = .ok (.bool (x.a == y.a && (x.h == y.h && (x.n == y.n && (x.p == y.p && (x.q == y.q && x.y == y.y)))))) w := by
  have hS : Tryz.prog.underlying 33 = some (.struct (Tryz.prog.fieldsOf 33)) := by kernel_rfl
  have hp : Tryz.prog.stoodInHeld 33 = false := by kernel_rfl
  simp only [uv]
  rw [run_eql_struct, show (10000 : Nat) = 9999 + 1 from rfl, run_equalIn_agg w 9999 33 _ _ hS hp]
  simp only [Program.fieldsOf, Tryz.underlying33]
  go_simp
  by_cases h1 : x.a = y.a <;> by_cases h2 : x.h = y.h <;> by_cases h3 : x.n = y.n <;> by_cases h4 : x.p = y.p <;> by_cases h5 : x.q = y.q <;> by_cases h6 : x.y = y.y <;> simp [h1, h2, h3, h4, h5, h6]
theorem uu_eqB (x y : UU) : (x.a == y.a && (x.h == y.h && (x.n == y.n && (x.p == y.p && (x.q == y.q && x.y == y.y))))) = true ↔ x = y := by
  obtain ⟨a, b, c, d, e, f⟩ := x
  obtain ⟨a', b', c', d', e', f'⟩ := y
  simp only [Bool.and_eq_true, beq_iff_eq, UU.mk.injEq]

set_option maxHeartbeats 3200000 in
set_option maxRecDepth 100000 in
/-- Which route may be. -/
theorem routeRight (f : Wrd) (h1 : f.1.length ≤ 900) (h2 : f.2.1.length ≤ 900) (h3 : f.2.2.length ≤ 900) (w : World) (hL : Laid w) :
    Calls Tryz.prog 26 #[rtv f] w fun e w' => e = .returned (.bool (routeOk f)) ∧ Below w.heap.size w w' := by
  obtain ⟨n, p, o⟩ := f
  simp only at h1 h2 h3
  have UP := Lib.hid (fun W hb => uriParse (httpL ++ (104 :: p)) (by have : httpL.length = 7 := rfl; simp only [List.length_append, List.length_cons]; omega) W (hL.on hb))
  have H1 := Lib.hid (fun W hb => routeHost n (by omega) W (hL.on hb))
  have H2 := Lib.hid (fun W hb => routeHost o (by omega) W (hL.on hb))
  have PP := Lib.hid (pre_parse p)
  obtain ⟨⟨u, e⟩, hp⟩ : ∃ x, parseL (httpL ++ (104 :: p)) = x := ⟨_, rfl⟩
  rw [hp] at UP PP
  simp only at UP PP
  have EQ := Lib.hid (fun W => uv_eql u ⟨true, [104], 0, p, false, []⟩ W)
  have EI := uu_eqB u ⟨true, [104], 0, p, false, []⟩
  obtain ⟨B, hB⟩ : ∃ B, (u.a == (⟨true, [104], 0, p, false, []⟩ : UU).a && (u.h == (⟨true, [104], 0, p, false, []⟩ : UU).h && (u.n == (⟨true, [104], 0, p, false, []⟩ : UU).n && (u.p == (⟨true, [104], 0, p, false, []⟩ : UU).p && (u.q == (⟨true, [104], 0, p, false, []⟩ : UU).q && u.y == (⟨true, [104], 0, p, false, []⟩ : UU).y))))) = B := ⟨_, rfl⟩
  rw [hB] at EI EQ
  have HPB := Lib.hid (show preOk p = (decide (e = 0) && B) by
    rw [Bool.eq_iff_iff, PP.out, Bool.and_eq_true, decide_eq_true_eq, EI])
  have HK := Lib.hid (show routeOk (n, p, o) = ((n.isEmpty || hostOk n) && hostOk o && preOk p && decide (p.length ≤ 100)) from rfl)
  obtain ⟨b1, g1⟩ : ∃ b, n.isEmpty = b := ⟨_, rfl⟩
  obtain ⟨b2, g2⟩ : ∃ b, hostOk n = b := ⟨_, rfl⟩
  obtain ⟨b3, g3⟩ : ∃ b, hostOk o = b := ⟨_, rfl⟩
  obtain ⟨b4, g4⟩ : ∃ b, decide (p.length ≤ 100) = b := ⟨_, rfl⟩
  obtain ⟨b5, g5⟩ : ∃ b, decide (e = 0) = b := ⟨_, rfl⟩
  rw [g5] at HPB
  rw [g2] at H1
  rw [g3] at H2
  rw [HPB.out, g1, g2, g3, g4] at HK
  have g4' : decide ((p.length : Int) ≤ 100) = b4 := by rw [← g4]; exact decide_eq_decide.2 (by omega)
  have g5' : (e == 0) = b5 := by rw [← g5]; rfl
  clear PP HPB EI hB hp g2 g3 g4 hL
  obtain ⟨ua, uh, un, up, uq, uy⟩ := u
  unfold UU.v uv at UP
  have heq := EQ.out
  unfold uv at heq
  unfold httpL at UP
  simp only [List.cons_append, List.nil_append] at UP heq
  cases b5 <;> cases B <;> cases b1 <;> cases b2 <;> cases b3 <;>
  · go_enter Tryz.func26, Tryz.ntmps26
    go_wp2_with (first
      | (go_at_call 22; (with_reducible refine Calls.mono (UP.out _ ?_) ?_); (focus (repeat (first | (with_reducible exact Below.refl _ _) | (with_reducible assumption) | (with_reducible refine Below.drew ?_) | (focus ((with_reducible refine Below.setCell ?_ ?_ _); rotate_left; (first | omega | (simp <;> omega)))) | (focus ((with_reducible refine Below.alloc ?_ ?_ _); rotate_left; (first | omega | (simp <;> omega)))) | exact Below.refl _ _ | assumption | refine Below.drew ?_ | refine Below.alloc ?_ (by first | omega | (simp <;> omega)) _ | refine Below.setCell ?_ (by first | omega | (simp <;> omega)) _))); rintro e w1 ⟨rfl, hb1⟩; have HBX := Lib.hid (Below.trans (show Below w.heap.size w _ by (repeat (first | (with_reducible exact Below.refl _ _) | (with_reducible assumption) | (with_reducible refine Below.drew ?_) | (focus ((with_reducible refine Below.setCell ?_ ?_ _); rotate_left; (first | omega | (simp <;> omega)))) | (focus ((with_reducible refine Below.alloc ?_ ?_ _); rotate_left; (first | omega | (simp <;> omega)))) | exact Below.refl _ _ | assumption | refine Below.drew ?_ | refine Below.alloc ?_ (by first | omega | (simp <;> omega)) _ | refine Below.setCell ?_ (by first | omega | (simp <;> omega)) _))) (hb1.mono (by simp))); obtain ⟨hcc, hff⟩ := bk hb1 w.heap.size (by simp); have hz1 := hb1.size; simp at hz1; have hfr := far (show w.heap.size < w1.heap.size by omega); clear hb1)
      | (go_at_call 53; (with_reducible refine Calls.mono (H1.out _ ?_) ?_); (focus (have := HBX.out; (repeat (first | (with_reducible exact Below.refl _ _) | (with_reducible assumption) | (with_reducible refine Below.drew ?_) | (focus ((with_reducible refine Below.setCell ?_ ?_ _); rotate_left; (first | omega | (simp <;> omega)))) | (focus ((with_reducible refine Below.alloc ?_ ?_ _); rotate_left; (first | omega | (simp <;> omega)))) | exact Below.refl _ _ | assumption | refine Below.drew ?_ | refine Below.alloc ?_ (by first | omega | (simp <;> omega)) _ | refine Below.setCell ?_ (by first | omega | (simp <;> omega)) _)))); rintro e w2 ⟨rfl, hb2⟩; obtain ⟨hcc2, hff2⟩ := bk hb2 w.heap.size (by (try simp only [World.size_alloc, World.size_setCell]); omega); have hz2 := hb2.size; (try simp only [World.size_alloc, World.size_setCell] at hz2); have HBX := Lib.hid (Below.trans (show Below w.heap.size w _ by (have := HBX.out; (repeat (first | (with_reducible exact Below.refl _ _) | (with_reducible assumption) | (with_reducible refine Below.drew ?_) | (focus ((with_reducible refine Below.setCell ?_ ?_ _); rotate_left; (first | omega | (simp <;> omega)))) | (focus ((with_reducible refine Below.alloc ?_ ?_ _); rotate_left; (first | omega | (simp <;> omega)))) | exact Below.refl _ _ | assumption | refine Below.drew ?_ | refine Below.alloc ?_ (by first | omega | (simp <;> omega)) _ | refine Below.setCell ?_ (by first | omega | (simp <;> omega)) _)))) (hb2.mono (by (try simp only [World.size_alloc, World.size_setCell]); omega))); clear hb2)
      | (go_at_call 53; (with_reducible refine Calls.mono (H2.out _ ?_) ?_); (focus (have := HBX.out; (repeat (first | (with_reducible exact Below.refl _ _) | (with_reducible assumption) | (with_reducible refine Below.drew ?_) | (focus ((with_reducible refine Below.setCell ?_ ?_ _); rotate_left; (first | omega | (simp <;> omega)))) | (focus ((with_reducible refine Below.alloc ?_ ?_ _); rotate_left; (first | omega | (simp <;> omega)))) | exact Below.refl _ _ | assumption | refine Below.drew ?_ | refine Below.alloc ?_ (by first | omega | (simp <;> omega)) _ | refine Below.setCell ?_ (by first | omega | (simp <;> omega)) _)))); rintro e w3 ⟨rfl, hb3⟩; obtain ⟨hcc3, hff3⟩ := bk hb3 w.heap.size (by (try simp only [World.size_alloc, World.size_setCell]); omega); have hz3 := hb3.size; (try simp only [World.size_alloc, World.size_setCell] at hz3); have HBX := Lib.hid (Below.trans (show Below w.heap.size w _ by (have := HBX.out; (repeat (first | (with_reducible exact Below.refl _ _) | (with_reducible assumption) | (with_reducible refine Below.drew ?_) | (focus ((with_reducible refine Below.setCell ?_ ?_ _); rotate_left; (first | omega | (simp <;> omega)))) | (focus ((with_reducible refine Below.alloc ?_ ?_ _); rotate_left; (first | omega | (simp <;> omega)))) | exact Below.refl _ _ | assumption | refine Below.drew ?_ | refine Below.alloc ?_ (by first | omega | (simp <;> omega)) _ | refine Below.setCell ?_ (by first | omega | (simp <;> omega)) _)))) (hb3.mono (by (try simp only [World.size_alloc, World.size_setCell]); omega))); clear hb3))
    go_ret
    exact ⟨ret_bool (by rw [HK.out]; simp), by have := HBX.out; (repeat (first | (with_reducible exact Below.refl _ _) | (with_reducible assumption) | (with_reducible refine Below.drew ?_) | (focus ((with_reducible refine Below.setCell ?_ ?_ _); rotate_left; (first | omega | (simp <;> omega)))) | (focus ((with_reducible refine Below.alloc ?_ ?_ _); rotate_left; (first | omega | (simp <;> omega)))) | exact Below.refl _ _ | assumption | refine Below.drew ?_ | refine Below.alloc ?_ (by first | omega | (simp <;> omega)) _ | refine Below.setCell ?_ (by first | omega | (simp <;> omega)) _))⟩
end Go.Proofs.YtgjemgilanhdiaaGreatDoor
