/- Whether a host, a route may be: the walks of route.host, route.right and of the document's host. Printed by tools/routehost.py. Rows of texts that a call has built: what they hold, append of one text. -/
import Derived.Test.YtgjemgilanhdiaaGreatDoorRf21
import Derived.Test.YtgjemgilanhdiaaGreatDoorRf22
import Derived.Test.YtgjemgilanhdiaaGreatDoorRf15
import Derived.Deep.DeepCutAuto
import Derived.Test.YtgjemgilanhdiaaGreatDoorRf2
import Derived.Laws.AppendOwn
namespace Go.Proofs.YtgjemgilanhdiaaGreatDoor
open Go.RowKit Go.Sort Go.Shelf
set_option linter.unusedVariables false
set_option linter.unusedSimpArgs false

theorem host_no {s : List UInt8} (h : ¬ ((parseL (httpL ++ (s ++ [47]))).2 = 0 ∧ (parseL (httpL ++ (s ++ [47]))).1 = ⟨true, s, 0, [47], false, []⟩)) : hostOk s = false := by
  cases e : hostOk s with
  | false => rfl
  | true => exact absurd ((host_parse s).1 e) h
theorem pre_no {p : List UInt8} (h : ¬ ((parseL (httpL ++ (104 :: p))).2 = 0 ∧ (parseL (httpL ++ (104 :: p))).1 = ⟨true, [104], 0, p, false, []⟩)) : preOk p = false := by
  cases e : preOk p with
  | false => rfl
  | true => exact absurd ((pre_parse p).1 e) h
theorem uu_ext {u : UU} {a : Bool} {h : List UInt8} {n : Int} {p : List UInt8} {q : Bool} {y : List UInt8} (e : u = ⟨a, h, n, p, q, y⟩) : u.a = a ∧ u.h = h ∧ u.n = n ∧ u.p = p ∧ u.q = q ∧ u.y = y := by subst e; exact ⟨rfl, rfl, rfl, rfl, rfl, rfl⟩

set_option maxHeartbeats 3200000 in
set_option maxRecDepth 100000 in
theorem routeHost (s : List UInt8) (hs : s.length ≤ 1000) (w : World) (hL : Laid w) :
    Calls Tryz.prog 53 #[.string (S s)] w fun e w' => e = .returned (.bool (hostOk s)) ∧ Below w.heap.size w w' := by
  have UP := Lib.hid (uriParse (httpL ++ (s ++ [47])) (by have : httpL.length = 7 := rfl; simp only [List.length_append, List.length_cons, List.length_nil]; omega) w hL)
  have HN := Lib.hid (@host_no s)
  have HY := Lib.hid (host_parse s)
  obtain ⟨R, hR⟩ : ∃ R, hostOk s = R := ⟨_, rfl⟩
  rw [hR] at HN HY ⊢
  obtain ⟨⟨u, e⟩, hp⟩ : ∃ x, parseL (httpL ++ (s ++ [47])) = x := ⟨_, rfl⟩
  rw [hp] at UP HN HY
  simp only at UP HN HY
  have hsI : (s.length : Int) ≤ 1000 := by omega
  unfold httpL at UP
  simp only [List.cons_append, List.nil_append] at UP
  obtain ⟨a, h, n, p, q, y⟩ := u
  unfold UU.v uv at UP
  simp only at UP
  clear hR hp hL
  by_cases he : e = 0
  · subst he
    cases a with
    | false =>
      have hR : R = false := HN.out (fun h => by have := uu_ext h.2; simp_all)
      subst hR
      clear HY HN
      go_enter Tryz.func53, Tryz.ntmps53
      go_wp2_with (first | (go_at_call 22; refine Calls.mono (by simpa using UP.out) ?_; rintro e w1 ⟨rfl, hb1⟩; have HB1 := Lib.hid hb1; clear hb1) | fail)
      go_ret
      exact ⟨ret_bool (by simp), (by have := HB1.out; have := this.size; (repeat (first | with_reducible exact Below.refl _ _ | with_reducible assumption | with_reducible refine Below.drew ?_ | (with_reducible refine Below.setCell ?_ ?_ _; rotate_left; (first | omega | (simp <;> omega))) | (with_reducible refine Below.alloc ?_ ?_ _; rotate_left; (first | omega | (simp <;> omega))) | exact Below.refl _ _ | assumption)))⟩
    | true =>
      by_cases hh : h = s
      · subst hh
        by_cases hn : n = 0
        · subst hn
          by_cases hp : p = [47]
          · subst hp
            cases q with
            | true =>
              have hR : R = false := HN.out (fun h => by have := uu_ext h.2; simp_all)
              subst hR
              clear HY HN
              go_enter Tryz.func53, Tryz.ntmps53
              go_wp2_with (first | (go_at_call 22; refine Calls.mono (by simpa using UP.out) ?_; rintro e w1 ⟨rfl, hb1⟩; have HB1 := Lib.hid hb1; clear hb1) | fail)
              go_ret
              exact ⟨ret_bool (by simp), (by have := HB1.out; have := this.size; (repeat (first | with_reducible exact Below.refl _ _ | with_reducible assumption | with_reducible refine Below.drew ?_ | (with_reducible refine Below.setCell ?_ ?_ _; rotate_left; (first | omega | (simp <;> omega))) | (with_reducible refine Below.alloc ?_ ?_ _; rotate_left; (first | omega | (simp <;> omega))) | exact Below.refl _ _ | assumption)))⟩
            | false =>
              by_cases hy : y = []
              · subst hy
                have hR : R = true := HY.out.2 ⟨rfl, rfl⟩
                subst hR
                clear HY HN
                go_enter Tryz.func53, Tryz.ntmps53
                go_wp2_with (first | (go_at_call 22; refine Calls.mono (by simpa using UP.out) ?_; rintro e w1 ⟨rfl, hb1⟩; have HB1 := Lib.hid hb1; clear hb1) | fail)
                go_ret
                exact ⟨ret_bool (by simp), (by have := HB1.out; have := this.size; (repeat (first | with_reducible exact Below.refl _ _ | with_reducible assumption | with_reducible refine Below.drew ?_ | (with_reducible refine Below.setCell ?_ ?_ _; rotate_left; (first | omega | (simp <;> omega))) | (with_reducible refine Below.alloc ?_ ?_ _; rotate_left; (first | omega | (simp <;> omega))) | exact Below.refl _ _ | assumption)))⟩
              · have f1 : (y == []) = false := by simpa using hy
                have f2 : (y = []) = False := eq_false hy
                have hR : R = false := HN.out (fun h => by have := uu_ext h.2; simp_all)
                subst hR
                clear HY HN
                go_enter Tryz.func53, Tryz.ntmps53
                go_wp2_with (first | (go_at_call 22; refine Calls.mono (by simpa using UP.out) ?_; rintro e w1 ⟨rfl, hb1⟩; have HB1 := Lib.hid hb1; clear hb1) | fail)
                go_ret
                exact ⟨ret_bool (by simp), (by have := HB1.out; have := this.size; (repeat (first | with_reducible exact Below.refl _ _ | with_reducible assumption | with_reducible refine Below.drew ?_ | (with_reducible refine Below.setCell ?_ ?_ _; rotate_left; (first | omega | (simp <;> omega))) | (with_reducible refine Below.alloc ?_ ?_ _; rotate_left; (first | omega | (simp <;> omega))) | exact Below.refl _ _ | assumption)))⟩
          · have f1 : (p == [47]) = false := by simpa using hp
            have f2 : (p = [47]) = False := eq_false hp
            have hR : R = false := HN.out (fun h => by have := uu_ext h.2; simp_all)
            subst hR
            clear HY HN
            go_enter Tryz.func53, Tryz.ntmps53
            go_wp2_with (first | (go_at_call 22; refine Calls.mono (by simpa using UP.out) ?_; rintro e w1 ⟨rfl, hb1⟩; have HB1 := Lib.hid hb1; clear hb1) | fail)
            go_ret
            exact ⟨ret_bool (by simp), (by have := HB1.out; have := this.size; (repeat (first | with_reducible exact Below.refl _ _ | with_reducible assumption | with_reducible refine Below.drew ?_ | (with_reducible refine Below.setCell ?_ ?_ _; rotate_left; (first | omega | (simp <;> omega))) | (with_reducible refine Below.alloc ?_ ?_ _; rotate_left; (first | omega | (simp <;> omega))) | exact Below.refl _ _ | assumption)))⟩
        · have f1 : (n == 0) = false := by simpa using hn
          have f2 : (n = 0) = False := eq_false hn
          have hR : R = false := HN.out (fun h => by have := uu_ext h.2; simp_all)
          subst hR
          clear HY HN
          go_enter Tryz.func53, Tryz.ntmps53
          go_wp2_with (first | (go_at_call 22; refine Calls.mono (by simpa using UP.out) ?_; rintro e w1 ⟨rfl, hb1⟩; have HB1 := Lib.hid hb1; clear hb1) | fail)
          go_ret
          exact ⟨ret_bool (by simp), (by have := HB1.out; have := this.size; (repeat (first | with_reducible exact Below.refl _ _ | with_reducible assumption | with_reducible refine Below.drew ?_ | (with_reducible refine Below.setCell ?_ ?_ _; rotate_left; (first | omega | (simp <;> omega))) | (with_reducible refine Below.alloc ?_ ?_ _; rotate_left; (first | omega | (simp <;> omega))) | exact Below.refl _ _ | assumption)))⟩
      · have f1 : (h == s) = false := by simpa using hh
        have f2 : (h = s) = False := eq_false hh
        have hR : R = false := HN.out (fun h => by have := uu_ext h.2; simp_all)
        subst hR
        clear HY HN
        go_enter Tryz.func53, Tryz.ntmps53
        go_wp2_with (first | (go_at_call 22; refine Calls.mono (by simpa using UP.out) ?_; rintro e w1 ⟨rfl, hb1⟩; have HB1 := Lib.hid hb1; clear hb1) | fail)
        go_ret
        exact ⟨ret_bool (by simp), (by have := HB1.out; have := this.size; (repeat (first | with_reducible exact Below.refl _ _ | with_reducible assumption | with_reducible refine Below.drew ?_ | (with_reducible refine Below.setCell ?_ ?_ _; rotate_left; (first | omega | (simp <;> omega))) | (with_reducible refine Below.alloc ?_ ?_ _; rotate_left; (first | omega | (simp <;> omega))) | exact Below.refl _ _ | assumption)))⟩
  · have f3 : (e == 0) = false := by simpa using he
    have hR : R = false := HN.out (fun h => he h.1)
    subst hR
    clear HY HN
    go_enter Tryz.func53, Tryz.ntmps53
    go_wp2_with (first | (go_at_call 22; refine Calls.mono (by simpa using UP.out) ?_; rintro e w1 ⟨rfl, hb1⟩; have HB1 := Lib.hid hb1; clear hb1) | fail)
    go_ret
    exact ⟨ret_bool (by simp), (by have := HB1.out; have := this.size; (repeat (first | with_reducible exact Below.refl _ _ | with_reducible assumption | with_reducible refine Below.drew ?_ | (with_reducible refine Below.setCell ?_ ?_ _; rotate_left; (first | omega | (simp <;> omega))) | (with_reducible refine Below.alloc ?_ ?_ _; rotate_left; (first | omega | (simp <;> omega))) | exact Below.refl _ _ | assumption)))⟩
end Go.Proofs.YtgjemgilanhdiaaGreatDoor
namespace Go.Proofs.YtgjemgilanhdiaaGreatDoor
open Go.RowKit
set_option linter.unusedVariables false

theorem infoStr : (Tryz.prog.info? 9).map (fun i => (i.zero, i.size, i.bytes)) = some (some (.string ⟨#[]⟩), 1, 16) := by kernel_rfl

def Owns (W : World) (B : Nat) (v : Value) (L : List (List UInt8)) : Prop := W.ownsRow B 9 1 v L.length (L.map fun x => .string (S x))

theorem Owns.nil (W : World) (B : Nat) : Owns W B (.slice none 0 0) [] := World.ownsRow_nil _ _ _ _
theorem Owns.below {W W' : World} {B : Nat} {v : Value} {L : List (List UInt8)} (h : Owns W B v L) (hb : Below W.heap.size W W') : Owns W' B v L := by
  obtain ⟨h1, h2⟩ := h
  refine ⟨h1, ?_⟩
  rcases h2 with h2 | ⟨g, cap, cur, h3, h4, h5, h6⟩
  · exact .inl h2
  · refine .inr ⟨g, cap, cur, h3, h4, ?_, h6⟩
    have hg : g < W.heap.size := by
      rcases Nat.lt_or_ge g W.heap.size with h | h
      · exact h
      · rw [Array.getElem?_eq_none h] at h5; cases h5
    rw [hb.block g hg]
    exact h5
theorem Owns.shape {W : World} {B : Nat} {v : Value} {L : List (List UInt8)} (h : Owns W B v L) : ∃ ao cap, v = .slice ao L.length cap ∧ L.length ≤ cap ∧ cap ≤ maxLen ∧ (∀ a, ao = some a → ∃ g, a = ⟨g, 0, none⟩ ∧ B ≤ g ∧ g < W.heap.size) ∧ (ao = none → L = []) := by
  obtain ⟨h1, h2⟩ := h
  rcases h2 with ⟨h2, h3⟩ | ⟨g, cap, cur, h3, h4, h5, h6, h7, h8⟩
  · refine ⟨none, 0, by rw [h2, h3], by omega, by decide, (fun a ha => by cases ha), fun _ => by
      cases L with
      | nil => rfl
      | cons a t => simp at h3⟩
  · refine ⟨_, cap, h3, h6, h7, (fun a ha => ⟨g, by cases ha; rfl, h4, ?_⟩), (fun h => by cases h)⟩
    rcases Nat.lt_or_ge g W.heap.size with h | h
    · exact h
    · rw [Array.getElem?_eq_none h] at h5; cases h5
theorem Owns.at {W : World} {B : Nat} {v : Value} {L : List (List UInt8)} (h : Owns W B v L) (k : Nat) (hk : k < L.length) : ∃ g cap, v = .slice (some ⟨g, 0, none⟩) L.length cap ∧ L.length ≤ cap ∧ cap ≤ maxLen ∧ g < W.heap.size ∧ ∀ j (hj : j < L.length), W.cell? ⟨g, j, none⟩ = some (.string (S L[j])) := by
  obtain ⟨h1, h2⟩ := h
  rcases h2 with ⟨h2, h3⟩ | ⟨g, cap, cur, h3, h4, h5, h6, h7, h8, h9⟩
  · omega
  · refine ⟨g, cap, h3, h6, h7, ?_, fun j hj => ?_⟩
    · rcases Nat.lt_or_ge g W.heap.size with h | h
      · exact h
      · rw [Array.getElem?_eq_none h] at h5; cases h5
    · rw [Joins.cell_of_block h5]
      have e := congrArg (fun l => l[j]?) h9
      simp only [List.getElem?_take] at e
      rw [if_pos (by omega)] at e
      simp only [Array.getElem?_toList] at e
      rw [e]
      simp [hj]

theorem Owns.made (W : World) (B : Nat) (hB : B ≤ W.heap.size) : Owns (W.alloc (.cells #[] 9)) B (.slice (some ⟨W.heap.size, 0, none⟩) 0 0) [] :=
  ⟨rfl, .inr ⟨W.heap.size, 0, #[], rfl, hB, by show (W.heap.push _)[W.heap.size]? = _; rw [Array.getElem?_push_size], Nat.le_refl _, by decide, rfl, rfl⟩⟩

theorem wp_append_text' {ops : Array Oper} {rest : List Oper} {o : Oper} {a : Act} {Q : Exit → Act → World → Prop} (hgd : o.guard = none) (s x : Operand)
    (ho : o.op = .call { callee := .builtin .append, args := #[s, x], argTypes := #[55, 55] })
    (W : World) (B : Nat) (v : Value) (L : List (List UInt8)) (l : List UInt8) (hown : Owns W B v L) (hs : a.eval s = v) (g : Nat) (hx : a.eval x = .slice (some ⟨g, 0, none⟩) 1 1) (hg : g = W.heap.size)
    (hn : L.length ≤ 4398046511104) (hB : B ≤ W.heap.size)
    (h : ∀ v' w', Owns w' B v' (L ++ [l]) → Below B W w' → wpList Tryz.prog ops Q rest (a.put o.dst v') w') : wpList Tryz.prog ops Q (o :: rest) a (W.alloc (.cells #[.string (S l)] 9)) := by
  subst hg
  obtain ⟨i0, hi, hz0, hz1, hz2⟩ := info_parts infoStr
  have hown' : (W.alloc (.cells #[.string (S l)] 9)).ownsRow B 9 1 v L.length (L.map fun x => .string (S x)) := World.ownsRow.alloc hown _
  refine wpList_append_own _ hgd s x 55 ho B 9 i0 (.string ⟨#[]⟩) 1 16 Tryz.underlying55 hi hz0 hz1 hz2 rfl (by decide) v L.length _ hs hown' ⟨W.heap.size, 0, none⟩ 1 1 [.string (S l)] hx rfl ?_ ?_ ?_ ?_ ?_ ?_
  · intro j u hj
    match j, hj with
    | 0, hj => simp at hj; subst hj; simp [Addr.add]
  · intro u hu; simp at hu; subst hu; rfl
  · unfold maxLen; omega
  · omega
  · simp; omega
  · intro v' w' h1 h2 h3
    refine h v' w' (by unfold Owns; simpa using h1) ?_
    refine Below.grown (w := W.alloc (.cells #[.string (S l)] 9)) ((Below.refl _ _).alloc hB _) h2 (by simp; omega) ?_
    intro k hk
    have := World.ownsRow.lt hown' k hk
    exact this.1
theorem wp_append_text {ops : Array Oper} {rest : List Oper} {o : Oper} {a : Act} {Q : Exit → Act → World → Prop} (hgd : o.guard = none) (s x : Operand)
    (ho : o.op = .call { callee := .builtin .append, args := #[s, x], argTypes := #[55, 55] })
    (W : World) (B : Nat) (v : Value) (L : List (List UInt8)) (l : List UInt8) (hown : Owns W B v L) (hs : a.eval s = v) (hx : a.eval x = .slice (some ⟨W.heap.size, 0, none⟩) 1 1)
    (hn : L.length ≤ 4398046511104) (hB : B ≤ W.heap.size)
    (h : ∀ v' w', Owns w' B v' (L ++ [l]) → Below B W w' → wpList Tryz.prog ops Q rest (a.put o.dst v') w') : wpList Tryz.prog ops Q (o :: rest) a (W.alloc (.cells #[.string (S l)] 9)) :=
  wp_append_text' hgd s x ho W B v L l hown hs W.heap.size hx rfl hn hB h
end Go.Proofs.YtgjemgilanhdiaaGreatDoor
