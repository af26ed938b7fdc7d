/- Whether a host, a route may be: the walks of route.host, route.right and of the document's host. Printed by tools/routehost.py. -/
import Derived.Test.YtgjemgilanhdiaaDoorRt22
import Derived.Test.YtgjemgilanhdiaaDoorRt24
import Derived.Test.YtgjemgilanhdiaaDoorRt13
import Derived.Deep.DeepCutAuto
namespace Go.Proofs.YtgjemgilanhdiaaDoor
open Go.RowKit Go.Sort Go.Shelf
set_option linter.unusedVariables false
set_option linter.unusedSimpArgs false

theorem host_no {s : List UInt8} (h : ¬ ((parseL (httpL ++ (s ++ [47]))).2 = 0 ∧ (parseL (httpL ++ (s ++ [47]))).1 = ⟨true, s, 0, [47], false, []⟩)) : hostOk s = false := by
  cases e : hostOk s with
  | false => rfl
  | true => exact absurd ((host_parse s).1 e) h
theorem pre_no {p : List UInt8} (h : ¬ ((parseL (httpL ++ (104 :: p))).2 = 0 ∧ (parseL (httpL ++ (104 :: p))).1 = ⟨true, [104], 0, p, false, []⟩)) : preOk p = false := by
  cases e : preOk p with
  | false => rfl
  | true => exact absurd ((pre_parse p).1 e) h
theorem uu_ext {u : UU} {a : Bool} {h : List UInt8} {n : Int} {p : List UInt8} {q : Bool} {y : List UInt8} (e : u = ⟨a, h, n, p, q, y⟩) : u.a = a ∧ u.h = h ∧ u.n = n ∧ u.p = p ∧ u.q = q ∧ u.y = y := by subst e; exact ⟨rfl, rfl, rfl, rfl, rfl, rfl⟩

set_option maxHeartbeats 3200000 in
set_option maxRecDepth 100000 in
theorem routeHost (s : List UInt8) (hs : s.length ≤ 1000) (w : World) (hL : Laid w) :
    Calls Tryd.prog 31 #[.string (S s)] w fun e w' => e = .returned (.bool (hostOk s)) ∧ Below w.heap.size w w' := by
  have UP := Lib.hid (uriParse (httpL ++ (s ++ [47])) (by have : httpL.length = 7 := rfl; simp only [List.length_append, List.length_cons, List.length_nil]; omega) w hL)
  have HN := Lib.hid (@host_no s)
  have HY := Lib.hid (host_parse s)
  obtain ⟨R, hR⟩ : ∃ R, hostOk s = R := ⟨_, rfl⟩
  rw [hR] at HN HY ⊢
  obtain ⟨⟨u, e⟩, hp⟩ : ∃ x, parseL (httpL ++ (s ++ [47])) = x := ⟨_, rfl⟩
  rw [hp] at UP HN HY
  simp only at UP HN HY
  have hsI : (s.length : Int) ≤ 1000 := by omega
  unfold httpL at UP
  simp only [List.cons_append, List.nil_append] at UP
  obtain ⟨a, h, n, p, q, y⟩ := u
  unfold UU.v uv at UP
  simp only at UP
  clear hR hp hL
  by_cases he : e = 0
  · subst he
    cases a with
    | false =>
      have hR : R = false := HN.out (fun h => by have := uu_ext h.2; simp_all)
      subst hR
      clear HY HN
      go_enter Tryd.func31, Tryd.ntmps31
      go_wp2_with (first | (go_at_call 30; refine Calls.mono (by simpa using UP.out) ?_; rintro e w1 ⟨rfl, hb1⟩; have HB1 := Lib.hid hb1; clear hb1) | fail)
      go_ret
      exact ⟨ret_bool (by simp), (by have := HB1.out; have := this.size; (repeat (first | (with_reducible exact Below.refl _ _) | (with_reducible assumption) | (with_reducible refine Below.drew ?_) | (focus ((with_reducible refine Below.setCell ?_ ?_ _); rotate_left; (first | omega | (simp <;> omega)))) | (focus ((with_reducible refine Below.alloc ?_ ?_ _); rotate_left; (first | omega | (simp <;> omega)))) | exact Below.refl _ _ | assumption | refine Below.drew ?_ | refine Below.alloc ?_ (by first | omega | (simp <;> omega)) _ | refine Below.setCell ?_ (by first | omega | (simp <;> omega)) _)))⟩
    | true =>
      by_cases hh : h = s
      · subst hh
        by_cases hn : n = 0
        · subst hn
          by_cases hp : p = [47]
          · subst hp
            cases q with
            | true =>
              have hR : R = false := HN.out (fun h => by have := uu_ext h.2; simp_all)
              subst hR
              clear HY HN
              go_enter Tryd.func31, Tryd.ntmps31
              go_wp2_with (first | (go_at_call 30; refine Calls.mono (by simpa using UP.out) ?_; rintro e w1 ⟨rfl, hb1⟩; have HB1 := Lib.hid hb1; clear hb1) | fail)
              go_ret
              exact ⟨ret_bool (by simp), (by have := HB1.out; have := this.size; (repeat (first | (with_reducible exact Below.refl _ _) | (with_reducible assumption) | (with_reducible refine Below.drew ?_) | (focus ((with_reducible refine Below.setCell ?_ ?_ _); rotate_left; (first | omega | (simp <;> omega)))) | (focus ((with_reducible refine Below.alloc ?_ ?_ _); rotate_left; (first | omega | (simp <;> omega)))) | exact Below.refl _ _ | assumption | refine Below.drew ?_ | refine Below.alloc ?_ (by first | omega | (simp <;> omega)) _ | refine Below.setCell ?_ (by first | omega | (simp <;> omega)) _)))⟩
            | false =>
              by_cases hy : y = []
              · subst hy
                have hR : R = true := HY.out.2 ⟨rfl, rfl⟩
                subst hR
                clear HY HN
                go_enter Tryd.func31, Tryd.ntmps31
                go_wp2_with (first | (go_at_call 30; refine Calls.mono (by simpa using UP.out) ?_; rintro e w1 ⟨rfl, hb1⟩; have HB1 := Lib.hid hb1; clear hb1) | fail)
                go_ret
                exact ⟨ret_bool (by simp), (by have := HB1.out; have := this.size; (repeat (first | (with_reducible exact Below.refl _ _) | (with_reducible assumption) | (with_reducible refine Below.drew ?_) | (focus ((with_reducible refine Below.setCell ?_ ?_ _); rotate_left; (first | omega | (simp <;> omega)))) | (focus ((with_reducible refine Below.alloc ?_ ?_ _); rotate_left; (first | omega | (simp <;> omega)))) | exact Below.refl _ _ | assumption | refine Below.drew ?_ | refine Below.alloc ?_ (by first | omega | (simp <;> omega)) _ | refine Below.setCell ?_ (by first | omega | (simp <;> omega)) _)))⟩
              · have f1 : (y == []) = false := by simpa using hy
                have f2 : (y = []) = False := eq_false hy
                have hR : R = false := HN.out (fun h => by have := uu_ext h.2; simp_all)
                subst hR
                clear HY HN
                go_enter Tryd.func31, Tryd.ntmps31
                go_wp2_with (first | (go_at_call 30; refine Calls.mono (by simpa using UP.out) ?_; rintro e w1 ⟨rfl, hb1⟩; have HB1 := Lib.hid hb1; clear hb1) | fail)
                go_ret
                exact ⟨ret_bool (by simp), (by have := HB1.out; have := this.size; (repeat (first | (with_reducible exact Below.refl _ _) | (with_reducible assumption) | (with_reducible refine Below.drew ?_) | (focus ((with_reducible refine Below.setCell ?_ ?_ _); rotate_left; (first | omega | (simp <;> omega)))) | (focus ((with_reducible refine Below.alloc ?_ ?_ _); rotate_left; (first | omega | (simp <;> omega)))) | exact Below.refl _ _ | assumption | refine Below.drew ?_ | refine Below.alloc ?_ (by first | omega | (simp <;> omega)) _ | refine Below.setCell ?_ (by first | omega | (simp <;> omega)) _)))⟩
          · have f1 : (p == [47]) = false := by simpa using hp
            have f2 : (p = [47]) = False := eq_false hp
            have hR : R = false := HN.out (fun h => by have := uu_ext h.2; simp_all)
            subst hR
            clear HY HN
            go_enter Tryd.func31, Tryd.ntmps31
            go_wp2_with (first | (go_at_call 30; refine Calls.mono (by simpa using UP.out) ?_; rintro e w1 ⟨rfl, hb1⟩; have HB1 := Lib.hid hb1; clear hb1) | fail)
            go_ret
            exact ⟨ret_bool (by simp), (by have := HB1.out; have := this.size; (repeat (first | (with_reducible exact Below.refl _ _) | (with_reducible assumption) | (with_reducible refine Below.drew ?_) | (focus ((with_reducible refine Below.setCell ?_ ?_ _); rotate_left; (first | omega | (simp <;> omega)))) | (focus ((with_reducible refine Below.alloc ?_ ?_ _); rotate_left; (first | omega | (simp <;> omega)))) | exact Below.refl _ _ | assumption | refine Below.drew ?_ | refine Below.alloc ?_ (by first | omega | (simp <;> omega)) _ | refine Below.setCell ?_ (by first | omega | (simp <;> omega)) _)))⟩
        · have f1 : (n == 0) = false := by simpa using hn
          have f2 : (n = 0) = False := eq_false hn
          have hR : R = false := HN.out (fun h => by have := uu_ext h.2; simp_all)
          subst hR
          clear HY HN
          go_enter Tryd.func31, Tryd.ntmps31
          go_wp2_with (first | (go_at_call 30; refine Calls.mono (by simpa using UP.out) ?_; rintro e w1 ⟨rfl, hb1⟩; have HB1 := Lib.hid hb1; clear hb1) | fail)
          go_ret
          exact ⟨ret_bool (by simp), (by have := HB1.out; have := this.size; (repeat (first | (with_reducible exact Below.refl _ _) | (with_reducible assumption) | (with_reducible refine Below.drew ?_) | (focus ((with_reducible refine Below.setCell ?_ ?_ _); rotate_left; (first | omega | (simp <;> omega)))) | (focus ((with_reducible refine Below.alloc ?_ ?_ _); rotate_left; (first | omega | (simp <;> omega)))) | exact Below.refl _ _ | assumption | refine Below.drew ?_ | refine Below.alloc ?_ (by first | omega | (simp <;> omega)) _ | refine Below.setCell ?_ (by first | omega | (simp <;> omega)) _)))⟩
      · have f1 : (h == s) = false := by simpa using hh
        have f2 : (h = s) = False := eq_false hh
        have hR : R = false := HN.out (fun h => by have := uu_ext h.2; simp_all)
        subst hR
        clear HY HN
        go_enter Tryd.func31, Tryd.ntmps31
        go_wp2_with (first | (go_at_call 30; refine Calls.mono (by simpa using UP.out) ?_; rintro e w1 ⟨rfl, hb1⟩; have HB1 := Lib.hid hb1; clear hb1) | fail)
        go_ret
        exact ⟨ret_bool (by simp), (by have := HB1.out; have := this.size; (repeat (first | (with_reducible exact Below.refl _ _) | (with_reducible assumption) | (with_reducible refine Below.drew ?_) | (focus ((with_reducible refine Below.setCell ?_ ?_ _); rotate_left; (first | omega | (simp <;> omega)))) | (focus ((with_reducible refine Below.alloc ?_ ?_ _); rotate_left; (first | omega | (simp <;> omega)))) | exact Below.refl _ _ | assumption | refine Below.drew ?_ | refine Below.alloc ?_ (by first | omega | (simp <;> omega)) _ | refine Below.setCell ?_ (by first | omega | (simp <;> omega)) _)))⟩
  · have f3 : (e == 0) = false := by simpa using he
    have hR : R = false := HN.out (fun h => he h.1)
    subst hR
    clear HY HN
    go_enter Tryd.func31, Tryd.ntmps31
    go_wp2_with (first | (go_at_call 30; refine Calls.mono (by simpa using UP.out) ?_; rintro e w1 ⟨rfl, hb1⟩; have HB1 := Lib.hid hb1; clear hb1) | fail)
    go_ret
    exact ⟨ret_bool (by simp), (by have := HB1.out; have := this.size; (repeat (first | (with_reducible exact Below.refl _ _) | (with_reducible assumption) | (with_reducible refine Below.drew ?_) | (focus ((with_reducible refine Below.setCell ?_ ?_ _); rotate_left; (first | omega | (simp <;> omega)))) | (focus ((with_reducible refine Below.alloc ?_ ?_ _); rotate_left; (first | omega | (simp <;> omega)))) | exact Below.refl _ _ | assumption | refine Below.drew ?_ | refine Below.alloc ?_ (by first | omega | (simp <;> omega)) _ | refine Below.setCell ?_ (by first | omega | (simp <;> omega)) _)))⟩
end Go.Proofs.YtgjemgilanhdiaaDoor
