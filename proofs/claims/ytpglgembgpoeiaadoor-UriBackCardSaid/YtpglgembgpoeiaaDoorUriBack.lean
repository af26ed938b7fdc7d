/- The law UriBack: its walk. -/
import Derived.Test.YtpglgembgpoeiaaDoorUriReads
import Derived.Test.YtpglgembgpoeiaaDoorBackMath3
namespace Go.Proofs.YtpglgembgpoeiaaDoor
open Go.RowKit Go.Shelf
set_option linter.unusedVariables false

theorem ok_mid (u : UU) (h : u.ok = true) : u.mid ∧ (writeL u.a u.h u.n.toNat u.p u.q u.y).length ≤ 1000000 := by
  have h1 := (ok_iff u).1 h
  have hl := h1.len
  refine ⟨?_, by omega⟩
  have h2 := hl
  unfold writeL at h2
  simp only [List.length_append] at h2
  refine ⟨?_, by omega, ?_⟩
  · have hh := h1.host
    cases ha : u.a with
    | true => rw [ha] at hh; simp only [if_true, Bool.and_eq_true, hostL, decide_eq_true_eq] at hh; omega
    | false =>
      rw [ha] at hh
      simp only [Bool.false_eq_true, if_false, Bool.and_eq_true] at hh
      have : u.h = [] := by simpa using hh.1.1.1
      rw [this]; simp
  · rcases h1.qy with h3 | h3
    · rw [h3] at h2; simp only [if_true, List.length_cons] at h2; omega
    · rw [h3]; simp

set_option maxHeartbeats 6400000 in
set_option maxRecDepth 100000 in
theorem uriBack (u : UU) (hu : u.h.length ≤ 9223372036854775807 ∧ u.p.length ≤ 9223372036854775807 ∧ u.y.length ≤ 9223372036854775807) (l0 : List UInt8) (hl0 : l0.length ≤ 9223372036854775807) (w : World) (hL : Laid w) :
    Calls Tryd.prog 4 #[u.v, .string (S l0)] w fun e w' => e = .returned (.bool true) ∧ Below w.heap.size w w' := by
  have F1 := Lib.hid (fun W => show Calls Tryd.prog 6 #[u.v] W fun e w' => e = .returned u.cut.v ∧ Below W.heap.size W w' from fewC u hu W)
  obtain ⟨k, hk, hk1, hk2⟩ : ∃ k : Nat, min (l0.length : Int) 520 = k ∧ k ≤ l0.length ∧ k ≤ 520 := ⟨min l0.length 520, by omega, by omega, by omega⟩
  obtain ⟨l, hl⟩ : ∃ l, l0.take k = l := ⟨_, rfl⟩
  have hll : l.length ≤ 520 := by rw [← hl, List.length_take]; omega
  have C1 := Lib.hid (fun W (hbl : Below w.heap.size w W) => uriPrint u.cut u.cut_small.mid W (hL.on hbl))
  have C2 := Lib.hid (fun (hok : u.cut.ok = true) W (hbl : Below w.heap.size w W) => write_back u.cut hok ▸ uriParse (writeL u.cut.a u.cut.h u.cut.n.toNat u.cut.p u.cut.q u.cut.y) (ok_mid _ hok).2 W (hL.on hbl))
  have C3 := Lib.hid (fun W (hbl : Below w.heap.size w W) => uriParse l (by omega) W (hL.on hbl))
  have hbad := parse_bad l
  have hgood := parse_good l
  obtain ⟨⟨px, pe⟩, hp⟩ : ∃ x, parseL l = x := ⟨_, rfl⟩
  rw [hp] at C3 hbad hgood
  simp only at C3 hbad hgood
  have C4 := Lib.hid (fun (hok : px.ok = true) W (hbl : Below w.heap.size w W) => uriPrint px (ok_mid _ hok).1 W (hL.on hbl))
  have C5 := Lib.hid (fun (hok : px.ok = true) W (hbl : Below w.heap.size w W) => write_back px hok ▸ uriParse (writeL px.a px.h px.n.toNat px.p px.q px.y) (ok_mid _ hok).2 W (hL.on hbl))
  have C6 := Lib.hid (fun (hok : px.ok = true) W (hbl : Below w.heap.size w W) => rightC px (ok_mid _ hok).1 (W := W) hL hbl)
  unfold printL at C1 C4
  have HG := Lib.hid hgood
  have HB := Lib.hid hbad
  clear hgood hbad hp hL
  obtain ⟨⟨xa, xh, xn, xp, xq, xy⟩, hx⟩ : ∃ x, u.cut = x := ⟨_, rfl⟩
  simp only [hx] at F1 C1 C2
  obtain ⟨pa, ph, pn, pp, pq, py⟩ := px
  obtain ⟨ok, hok⟩ : ∃ b, UU.ok ⟨xa, xh, xn, xp, xq, xy⟩ = b := ⟨_, rfl⟩
  simp only [hok] at C1 C2
  obtain ⟨ok2, hok2⟩ : ∃ b, UU.ok ⟨pa, ph, pn, pp, pq, py⟩ = b := ⟨_, rfl⟩
  simp only [hok2] at C4 C5 C6 HG
  obtain ⟨wl, hwl⟩ : ∃ b, writeL xa xh xn.toNat xp xq xy = b := ⟨_, rfl⟩
  simp only [hwl] at C1 C2
  obtain ⟨wl2, hwl2⟩ : ∃ b, writeL pa ph pn.toNat pp pq py = b := ⟨_, rfl⟩
  simp only [hwl2] at C4 C5
  clear hx hok hok2 hwl hwl2
  obtain ⟨ua, uh, un, up, uq, uy⟩ := u
  clear hu
  have hsl : ((l0.take k).drop 0) = l := hl
  simp only [UU.v] at F1 C1 C2 C3 C4 C5 C6 ⊢
  go_enter Tryd.func4, Tryd.ntmps4
  go_wp2_with fail
  refine wp_region_callsV (w.heap.size + 1) [fun W => ((((((W.setCell ⟨w.heap.size, 0, none⟩ (.bool xa)).setCell ⟨w.heap.size, 1, none⟩ (.string (S xh))).setCell ⟨w.heap.size, 2, none⟩ (.int .i64 xn)).setCell ⟨w.heap.size, 3, none⟩ (.string (S xp))).setCell ⟨w.heap.size, 4, none⟩ (.bool xq)).setCell ⟨w.heap.size, 5, none⟩ (.string (S xy))), fun W => W] [1] (fun r => [7, 8].getD r 0) (fun i => [0, 0, 1, 1, 1, 1, 1, 0, 1].getD i 2) [(15, uv ua uh un up uq uy), (16, uv xa xh xn xp xq xy), (17, .string (S l0)), (18, .string (S l0)), (19, .int .i64 l0.length), (20, .int .i64 k), (21, .string (S l)), (1, .string (S l))] [(1, .string (S l0))] (by kernel_rfl) (by kernel_rfl) rfl ?_ ?_ ?_ ?_ ?_
  · simp only [puts, List.foldl_cons, List.foldl_nil, Act.put, List.setIfInBounds_toArray, List.set_cons_succ, List.set_cons_zero]; repeat (first | exact trivial | refine ⟨by first | exact Or.inr rfl | exact Or.inl (by kernel_rfl), ?_⟩)
  · simp only [puts, List.foldl_cons, List.foldl_nil, Act.put, List.setIfInBounds_toArray, List.set_cons_succ, List.set_cons_zero]; repeat (first | exact trivial | refine ⟨by first | exact Or.inr rfl | exact Or.inl (by kernel_rfl), ?_⟩)
  · simp only [puts, List.foldl_cons, List.foldl_nil, Act.put, List.setIfInBounds_toArray, List.set_cons_succ, List.set_cons_zero]; repeat (first | exact trivial | refine ⟨by first | exact Or.inr rfl | exact Or.inl (by kernel_rfl), ?_⟩)
  · simp only [puts, List.foldl_cons, List.foldl_nil, Act.put, List.setIfInBounds_toArray, List.set_cons_succ, List.set_cons_zero]
    refine And.intro ?_ ?_
    · exact opOK_headC 0 (by rfl) (upto0 (by exact oneC_val rfl rfl (fun x hx => by have cc0 := fun o => (show Below _ _ x from hx).cell (p := ⟨w.heap.size, o, none⟩) (by first | omega | (simp <;> omega)); have ff0 := fun o => (show Below _ _ x from hx).frozen (p := ⟨w.heap.size, o, none⟩) (by first | omega | (simp <;> omega)); simp [go_sem, *])))
    refine And.intro ?_ ?_
    · exact opOK_headC 0 (by rfl) (upto0 (by exact oneC_call rfl rfl (fun x hx => by have cc0 := fun o => (show Below _ _ x from hx).cell (p := ⟨w.heap.size, o, none⟩) (by first | omega | (simp <;> omega)); have ff0 := fun o => (show Below _ _ x from hx).frozen (p := ⟨w.heap.size, o, none⟩) (by first | omega | (simp <;> omega)); simp [go_sem, *]) (fun x hx => call_cls hx (by have := (show Below _ _ x from hx).size; simp at this; omega) (F1.out _))))
    refine And.intro ?_ ?_
    · exact opOK_headC 1 (by rfl) (upto1 (by exact oneC_val rfl rfl (fun x hx => by have cc0 := fun o => (show Below _ _ x from hx).cell (p := ⟨w.heap.size, o, none⟩) (by first | omega | (simp <;> omega)); have ff0 := fun o => (show Below _ _ x from hx).frozen (p := ⟨w.heap.size, o, none⟩) (by first | omega | (simp <;> omega)); simp [go_sem, *])) (by exact oneC_val rfl rfl (fun x hx => by have cc0 := fun o => (show Below _ _ x from hx).cell (p := ⟨w.heap.size, o, none⟩) (by first | omega | (simp <;> omega)); have ff0 := fun o => (show Below _ _ x from hx).frozen (p := ⟨w.heap.size, o, none⟩) (by first | omega | (simp <;> omega)); simp [go_sem, *])))
    refine And.intro ?_ ?_
    · exact opOK_headC 1 (by rfl) (upto1 (by exact oneC_val rfl rfl (fun x hx => by have cc0 := fun o => (show Below _ _ x from hx).cell (p := ⟨w.heap.size, o, none⟩) (by first | omega | (simp <;> omega)); have ff0 := fun o => (show Below _ _ x from hx).frozen (p := ⟨w.heap.size, o, none⟩) (by first | omega | (simp <;> omega)); simp [go_sem, *])) (by exact oneC_val rfl rfl (fun x hx => by have cc0 := fun o => (show Below _ _ x from hx).cell (p := ⟨w.heap.size, o, none⟩) (by first | omega | (simp <;> omega)); have ff0 := fun o => (show Below _ _ x from hx).frozen (p := ⟨w.heap.size, o, none⟩) (by first | omega | (simp <;> omega)); simp [go_sem, *])))
    refine And.intro ?_ ?_
    · exact opOK_headC 1 (by rfl) (upto1 (by exact oneC_val rfl rfl (fun x hx => by have cc0 := fun o => (show Below _ _ x from hx).cell (p := ⟨w.heap.size, o, none⟩) (by first | omega | (simp <;> omega)); have ff0 := fun o => (show Below _ _ x from hx).frozen (p := ⟨w.heap.size, o, none⟩) (by first | omega | (simp <;> omega)); simp [go_sem, *])) (by exact oneC_val rfl rfl (fun x hx => by have cc0 := fun o => (show Below _ _ x from hx).cell (p := ⟨w.heap.size, o, none⟩) (by first | omega | (simp <;> omega)); have ff0 := fun o => (show Below _ _ x from hx).frozen (p := ⟨w.heap.size, o, none⟩) (by first | omega | (simp <;> omega)); simp [go_sem, *])))
    refine And.intro ?_ ?_
    · exact opOK_headC 1 (by rfl) (upto1 (by exact oneC_val rfl rfl (fun x hx => by have cc0 := fun o => (show Below _ _ x from hx).cell (p := ⟨w.heap.size, o, none⟩) (by first | omega | (simp <;> omega)); have ff0 := fun o => (show Below _ _ x from hx).frozen (p := ⟨w.heap.size, o, none⟩) (by first | omega | (simp <;> omega)); simp [go_sem, *])) (by exact oneC_val rfl rfl (fun x hx => by have cc0 := fun o => (show Below _ _ x from hx).cell (p := ⟨w.heap.size, o, none⟩) (by first | omega | (simp <;> omega)); have ff0 := fun o => (show Below _ _ x from hx).frozen (p := ⟨w.heap.size, o, none⟩) (by first | omega | (simp <;> omega)); simp [go_sem, *])))
    refine And.intro ?_ ?_
    · exact opOK_headC 1 (by rfl) (upto1 (by exact oneC_val rfl rfl (fun x hx => by have cc0 := fun o => (show Below _ _ x from hx).cell (p := ⟨w.heap.size, o, none⟩) (by first | omega | (simp <;> omega)); have ff0 := fun o => (show Below _ _ x from hx).frozen (p := ⟨w.heap.size, o, none⟩) (by first | omega | (simp <;> omega)); simp [go_sem, *])) (by exact oneC_val rfl rfl (fun x hx => by have cc0 := fun o => (show Below _ _ x from hx).cell (p := ⟨w.heap.size, o, none⟩) (by first | omega | (simp <;> omega)); have ff0 := fun o => (show Below _ _ x from hx).frozen (p := ⟨w.heap.size, o, none⟩) (by first | omega | (simp <;> omega)); simp [go_sem, *])))
    refine And.intro ?_ ?_
    · exact opOK_atC 0 (by rfl) (oneC_store (g := fun W => ((((((W.setCell ⟨w.heap.size, 0, none⟩ (.bool xa)).setCell ⟨w.heap.size, 1, none⟩ (.string (S xh))).setCell ⟨w.heap.size, 2, none⟩ (.int .i64 xn)).setCell ⟨w.heap.size, 3, none⟩ (.string (S xp))).setCell ⟨w.heap.size, 4, none⟩ (.bool xq)).setCell ⟨w.heap.size, 5, none⟩ (.string (S xy)))) rfl (fun x hx => ⟨by have cc0 := fun o => (show Below _ _ x from hx).cell (p := ⟨w.heap.size, o, none⟩) (by first | omega | (simp <;> omega)); have ff0 := fun o => (show Below _ _ x from hx).frozen (p := ⟨w.heap.size, o, none⟩) (by first | omega | (simp <;> omega)); simp [go_sem, *], by simp only [Cls, List.take_succ_cons, List.take_zero, List.foldl_cons, List.foldl_nil] at hx ⊢; repeat (first | (with_reducible exact hx) | (with_reducible refine below_both ?_ _ _))⟩))
    refine And.intro ?_ ?_
    · exact opOK_atC 1 (by rfl) (oneC_assign rfl rfl (fun x hx => ⟨by have cc0 := fun o => (show Below _ _ x from hx).cell (p := ⟨w.heap.size, o, none⟩) (by first | omega | (simp <;> omega)); have ff0 := fun o => (show Below _ _ x from hx).frozen (p := ⟨w.heap.size, o, none⟩) (by first | omega | (simp <;> omega)); simp [go_sem, *], by simp only [Cls, List.take_succ_cons, List.take_zero, List.foldl_cons, List.foldl_nil] at hx ⊢; (with_reducible exact hx)⟩))
    exact trivial
  simp only [puts, List.foldl_cons, List.foldl_nil, Act.put, List.setIfInBounds_toArray, List.set_cons_succ, List.set_cons_zero]
  intro w1 hb_w1
  have hz_w1 := hb_w1.size
  try simp at hz_w1
  have c_w1_w_0 := fun o => hb_w1.cell (p := ⟨w.heap.size, o, none⟩) (by first | omega | (simp <;> omega))
  have f_w1_w_0 := fun o => hb_w1.frozen (p := ⟨w.heap.size, o, none⟩) (by first | omega | (simp <;> omega))
  have c_w1_w_0_0 := c_w1_w_0 0
  conv at c_w1_w_0_0 => rhs; simp [go_sem, *]
  have f_w1_w_0_0 := f_w1_w_0 0
  conv at f_w1_w_0_0 => rhs; simp [go_sem, *]
  have c_w1_w_0_1 := c_w1_w_0 1
  conv at c_w1_w_0_1 => rhs; simp [go_sem, *]
  have f_w1_w_0_1 := f_w1_w_0 1
  conv at f_w1_w_0_1 => rhs; simp [go_sem, *]
  have c_w1_w_0_2 := c_w1_w_0 2
  conv at c_w1_w_0_2 => rhs; simp [go_sem, *]
  have f_w1_w_0_2 := f_w1_w_0 2
  conv at f_w1_w_0_2 => rhs; simp [go_sem, *]
  have c_w1_w_0_3 := c_w1_w_0 3
  conv at c_w1_w_0_3 => rhs; simp [go_sem, *]
  have f_w1_w_0_3 := f_w1_w_0 3
  conv at f_w1_w_0_3 => rhs; simp [go_sem, *]
  have c_w1_w_0_4 := c_w1_w_0 4
  conv at c_w1_w_0_4 => rhs; simp [go_sem, *]
  have f_w1_w_0_4 := f_w1_w_0 4
  conv at f_w1_w_0_4 => rhs; simp [go_sem, *]
  have c_w1_w_0_5 := c_w1_w_0 5
  conv at c_w1_w_0_5 => rhs; simp [go_sem, *]
  have f_w1_w_0_5 := f_w1_w_0 5
  conv at f_w1_w_0_5 => rhs; simp [go_sem, *]
  have hB_w1 : Below w.heap.size w w1 := Below.trans (by (repeat (first | (with_reducible exact Below.refl _ _) | (with_reducible assumption) | (with_reducible refine Below.drew ?_) | (focus ((with_reducible refine Below.setCell ?_ ?_ _); rotate_left; (first | omega | (simp <;> omega)))) | (focus ((with_reducible refine Below.alloc ?_ ?_ _); rotate_left; (first | omega | (simp <;> omega)))) | exact Below.refl _ _ | assumption | refine Below.drew ?_ | refine Below.alloc ?_ (by first | omega | (simp <;> omega)) _ | refine Below.setCell ?_ (by first | omega | (simp <;> omega)) _))) (hb_w1.mono (by first | omega | (simp <;> omega)))
  clear hb_w1 c_w1_w_0 f_w1_w_0
  have far_w1_w_0 := far (show w.heap.size < w1.heap.size by omega)
  by_cases hpe : pe = 0
  · subst hpe
    have hg := HG.out rfl
    subst hg
    simp only [if_true] at C4
    cases ok with
    | false =>
      simp only [Bool.false_eq_true, if_false] at C1
      go_wp2_with fail
      refine Calls.mono (C1.out _ (by (repeat (first | (with_reducible exact Below.refl _ _) | (with_reducible assumption) | (with_reducible refine Below.drew ?_) | (focus ((with_reducible refine Below.setCell ?_ ?_ _); rotate_left; (first | omega | (simp <;> omega)))) | (focus ((with_reducible refine Below.alloc ?_ ?_ _); rotate_left; (first | omega | (simp <;> omega)))) | exact Below.refl _ _ | assumption | refine Below.drew ?_ | refine Below.alloc ?_ (by first | omega | (simp <;> omega)) _ | refine Below.setCell ?_ (by first | omega | (simp <;> omega)) _)))) ?_
      rintro e w2 ⟨rfl, hb_w2⟩
      have hz_w2 := hb_w2.size
      try simp at hz_w2
      have hB_w2 : Below w.heap.size w w2 := Below.trans (by (repeat (first | (with_reducible exact Below.refl _ _) | (with_reducible assumption) | (with_reducible refine Below.drew ?_) | (focus ((with_reducible refine Below.setCell ?_ ?_ _); rotate_left; (first | omega | (simp <;> omega)))) | (focus ((with_reducible refine Below.alloc ?_ ?_ _); rotate_left; (first | omega | (simp <;> omega)))) | exact Below.refl _ _ | assumption | refine Below.drew ?_ | refine Below.alloc ?_ (by first | omega | (simp <;> omega)) _ | refine Below.setCell ?_ (by first | omega | (simp <;> omega)) _))) (hb_w2.mono (by first | omega | (simp <;> omega)))
      clear hb_w2
      try clear c_w1_w_0_0
      try clear f_w1_w_0_0
      try clear c_w1_w_0_1
      try clear f_w1_w_0_1
      try clear c_w1_w_0_2
      try clear f_w1_w_0_2
      try clear c_w1_w_0_3
      try clear f_w1_w_0_3
      try clear c_w1_w_0_4
      try clear f_w1_w_0_4
      try clear c_w1_w_0_5
      try clear f_w1_w_0_5
      try clear far_w1_w_0
      try clear hB_w1
      go_wp2_with fail
      refine Calls.mono (C3.out _ (by (repeat (first | (with_reducible exact Below.refl _ _) | (with_reducible assumption) | (with_reducible refine Below.drew ?_) | (focus ((with_reducible refine Below.setCell ?_ ?_ _); rotate_left; (first | omega | (simp <;> omega)))) | (focus ((with_reducible refine Below.alloc ?_ ?_ _); rotate_left; (first | omega | (simp <;> omega)))) | exact Below.refl _ _ | assumption | refine Below.drew ?_ | refine Below.alloc ?_ (by first | omega | (simp <;> omega)) _ | refine Below.setCell ?_ (by first | omega | (simp <;> omega)) _)))) ?_
      rintro e w3 ⟨rfl, hb_w3⟩
      have hz_w3 := hb_w3.size
      try simp at hz_w3
      have hB_w3 : Below w.heap.size w w3 := Below.trans (by (repeat (first | (with_reducible exact Below.refl _ _) | (with_reducible assumption) | (with_reducible refine Below.drew ?_) | (focus ((with_reducible refine Below.setCell ?_ ?_ _); rotate_left; (first | omega | (simp <;> omega)))) | (focus ((with_reducible refine Below.alloc ?_ ?_ _); rotate_left; (first | omega | (simp <;> omega)))) | exact Below.refl _ _ | assumption | refine Below.drew ?_ | refine Below.alloc ?_ (by first | omega | (simp <;> omega)) _ | refine Below.setCell ?_ (by first | omega | (simp <;> omega)) _))) (hb_w3.mono (by first | omega | (simp <;> omega)))
      clear hb_w3
      try clear hB_w2
      go_wp2_with fail
      refine Calls.mono (C4.out (by simp) _ (by (repeat (first | (with_reducible exact Below.refl _ _) | (with_reducible assumption) | (with_reducible refine Below.drew ?_) | (focus ((with_reducible refine Below.setCell ?_ ?_ _); rotate_left; (first | omega | (simp <;> omega)))) | (focus ((with_reducible refine Below.alloc ?_ ?_ _); rotate_left; (first | omega | (simp <;> omega)))) | exact Below.refl _ _ | assumption | refine Below.drew ?_ | refine Below.alloc ?_ (by first | omega | (simp <;> omega)) _ | refine Below.setCell ?_ (by first | omega | (simp <;> omega)) _)))) ?_
      rintro e w4 ⟨rfl, hb_w4⟩
      have hz_w4 := hb_w4.size
      try simp at hz_w4
      obtain ⟨c_w4_w3_0, f_w4_w3_0⟩ := bk hb_w4 (w3.heap.size) (by first | omega | (simp <;> omega))
      have c_w4_w3_0_0 := c_w4_w3_0 0
      conv at c_w4_w3_0_0 => rhs; simp [go_sem, *]
      have f_w4_w3_0_0 := f_w4_w3_0 0
      conv at f_w4_w3_0_0 => rhs; simp [go_sem, *]
      have c_w4_w3_0_1 := c_w4_w3_0 1
      conv at c_w4_w3_0_1 => rhs; simp [go_sem, *]
      have f_w4_w3_0_1 := f_w4_w3_0 1
      conv at f_w4_w3_0_1 => rhs; simp [go_sem, *]
      have c_w4_w3_0_2 := c_w4_w3_0 2
      conv at c_w4_w3_0_2 => rhs; simp [go_sem, *]
      have f_w4_w3_0_2 := f_w4_w3_0 2
      conv at f_w4_w3_0_2 => rhs; simp [go_sem, *]
      have c_w4_w3_0_3 := c_w4_w3_0 3
      conv at c_w4_w3_0_3 => rhs; simp [go_sem, *]
      have f_w4_w3_0_3 := f_w4_w3_0 3
      conv at f_w4_w3_0_3 => rhs; simp [go_sem, *]
      have c_w4_w3_0_4 := c_w4_w3_0 4
      conv at c_w4_w3_0_4 => rhs; simp [go_sem, *]
      have f_w4_w3_0_4 := f_w4_w3_0 4
      conv at f_w4_w3_0_4 => rhs; simp [go_sem, *]
      have c_w4_w3_0_5 := c_w4_w3_0 5
      conv at c_w4_w3_0_5 => rhs; simp [go_sem, *]
      have f_w4_w3_0_5 := f_w4_w3_0 5
      conv at f_w4_w3_0_5 => rhs; simp [go_sem, *]
      have hB_w4 : Below w.heap.size w w4 := Below.trans (by (repeat (first | (with_reducible exact Below.refl _ _) | (with_reducible assumption) | (with_reducible refine Below.drew ?_) | (focus ((with_reducible refine Below.setCell ?_ ?_ _); rotate_left; (first | omega | (simp <;> omega)))) | (focus ((with_reducible refine Below.alloc ?_ ?_ _); rotate_left; (first | omega | (simp <;> omega)))) | exact Below.refl _ _ | assumption | refine Below.drew ?_ | refine Below.alloc ?_ (by first | omega | (simp <;> omega)) _ | refine Below.setCell ?_ (by first | omega | (simp <;> omega)) _))) (hb_w4.mono (by first | omega | (simp <;> omega)))
      clear hb_w4 c_w4_w3_0 f_w4_w3_0
      try clear hB_w3
      have far_w4_w3_0 := far (show w3.heap.size < w4.heap.size by omega)
      go_wp2_with fail
      refine Calls.mono (C5.out (by simp) _ (by (repeat (first | (with_reducible exact Below.refl _ _) | (with_reducible assumption) | (with_reducible refine Below.drew ?_) | (focus ((with_reducible refine Below.setCell ?_ ?_ _); rotate_left; (first | omega | (simp <;> omega)))) | (focus ((with_reducible refine Below.alloc ?_ ?_ _); rotate_left; (first | omega | (simp <;> omega)))) | exact Below.refl _ _ | assumption | refine Below.drew ?_ | refine Below.alloc ?_ (by first | omega | (simp <;> omega)) _ | refine Below.setCell ?_ (by first | omega | (simp <;> omega)) _)))) ?_
      rintro e w5 ⟨rfl, hb_w5⟩
      have hz_w5 := hb_w5.size
      try simp at hz_w5
      obtain ⟨c_w5_w3_0, f_w5_w3_0⟩ := bk hb_w5 (w3.heap.size) (by first | omega | (simp <;> omega))
      have c_w5_w3_0_0 := c_w5_w3_0 0
      conv at c_w5_w3_0_0 => rhs; simp [go_sem, *]
      have f_w5_w3_0_0 := f_w5_w3_0 0
      conv at f_w5_w3_0_0 => rhs; simp [go_sem, *]
      have c_w5_w3_0_1 := c_w5_w3_0 1
      conv at c_w5_w3_0_1 => rhs; simp [go_sem, *]
      have f_w5_w3_0_1 := f_w5_w3_0 1
      conv at f_w5_w3_0_1 => rhs; simp [go_sem, *]
      have c_w5_w3_0_2 := c_w5_w3_0 2
      conv at c_w5_w3_0_2 => rhs; simp [go_sem, *]
      have f_w5_w3_0_2 := f_w5_w3_0 2
      conv at f_w5_w3_0_2 => rhs; simp [go_sem, *]
      have c_w5_w3_0_3 := c_w5_w3_0 3
      conv at c_w5_w3_0_3 => rhs; simp [go_sem, *]
      have f_w5_w3_0_3 := f_w5_w3_0 3
      conv at f_w5_w3_0_3 => rhs; simp [go_sem, *]
      have c_w5_w3_0_4 := c_w5_w3_0 4
      conv at c_w5_w3_0_4 => rhs; simp [go_sem, *]
      have f_w5_w3_0_4 := f_w5_w3_0 4
      conv at f_w5_w3_0_4 => rhs; simp [go_sem, *]
      have c_w5_w3_0_5 := c_w5_w3_0 5
      conv at c_w5_w3_0_5 => rhs; simp [go_sem, *]
      have f_w5_w3_0_5 := f_w5_w3_0 5
      conv at f_w5_w3_0_5 => rhs; simp [go_sem, *]
      have hB_w5 : Below w.heap.size w w5 := Below.trans (by (repeat (first | (with_reducible exact Below.refl _ _) | (with_reducible assumption) | (with_reducible refine Below.drew ?_) | (focus ((with_reducible refine Below.setCell ?_ ?_ _); rotate_left; (first | omega | (simp <;> omega)))) | (focus ((with_reducible refine Below.alloc ?_ ?_ _); rotate_left; (first | omega | (simp <;> omega)))) | exact Below.refl _ _ | assumption | refine Below.drew ?_ | refine Below.alloc ?_ (by first | omega | (simp <;> omega)) _ | refine Below.setCell ?_ (by first | omega | (simp <;> omega)) _))) (hb_w5.mono (by first | omega | (simp <;> omega)))
      clear hb_w5 c_w5_w3_0 f_w5_w3_0
      try clear c_w4_w3_0_0
      try clear f_w4_w3_0_0
      try clear c_w4_w3_0_1
      try clear f_w4_w3_0_1
      try clear c_w4_w3_0_2
      try clear f_w4_w3_0_2
      try clear c_w4_w3_0_3
      try clear f_w4_w3_0_3
      try clear c_w4_w3_0_4
      try clear f_w4_w3_0_4
      try clear c_w4_w3_0_5
      try clear f_w4_w3_0_5
      try clear far_w4_w3_0
      try clear hB_w4
      have far_w5_w3_0 := far (show w3.heap.size < w5.heap.size by omega)
      go_wp2_with fail
      refine Calls.mono (clean_alive _) ?_
      rintro e w6 ⟨rfl, hb_w6⟩
      have hz_w6 := hb_w6.size
      try simp at hz_w6
      obtain ⟨c_w6_w3_0, f_w6_w3_0⟩ := bk hb_w6 (w3.heap.size) (by first | omega | (simp <;> omega))
      have c_w6_w3_0_0 := c_w6_w3_0 0
      conv at c_w6_w3_0_0 => rhs; simp [go_sem, *]
      have f_w6_w3_0_0 := f_w6_w3_0 0
      conv at f_w6_w3_0_0 => rhs; simp [go_sem, *]
      have c_w6_w3_0_1 := c_w6_w3_0 1
      conv at c_w6_w3_0_1 => rhs; simp [go_sem, *]
      have f_w6_w3_0_1 := f_w6_w3_0 1
      conv at f_w6_w3_0_1 => rhs; simp [go_sem, *]
      have c_w6_w3_0_2 := c_w6_w3_0 2
      conv at c_w6_w3_0_2 => rhs; simp [go_sem, *]
      have f_w6_w3_0_2 := f_w6_w3_0 2
      conv at f_w6_w3_0_2 => rhs; simp [go_sem, *]
      have c_w6_w3_0_3 := c_w6_w3_0 3
      conv at c_w6_w3_0_3 => rhs; simp [go_sem, *]
      have f_w6_w3_0_3 := f_w6_w3_0 3
      conv at f_w6_w3_0_3 => rhs; simp [go_sem, *]
      have c_w6_w3_0_4 := c_w6_w3_0 4
      conv at c_w6_w3_0_4 => rhs; simp [go_sem, *]
      have f_w6_w3_0_4 := f_w6_w3_0 4
      conv at f_w6_w3_0_4 => rhs; simp [go_sem, *]
      have c_w6_w3_0_5 := c_w6_w3_0 5
      conv at c_w6_w3_0_5 => rhs; simp [go_sem, *]
      have f_w6_w3_0_5 := f_w6_w3_0 5
      conv at f_w6_w3_0_5 => rhs; simp [go_sem, *]
      obtain ⟨c_w6_w5_0, f_w6_w5_0⟩ := bk hb_w6 (w5.heap.size) (by first | omega | (simp <;> omega))
      have c_w6_w5_0_0 := c_w6_w5_0 0
      conv at c_w6_w5_0_0 => rhs; simp [go_sem, *]
      have f_w6_w5_0_0 := f_w6_w5_0 0
      conv at f_w6_w5_0_0 => rhs; simp [go_sem, *]
      have c_w6_w5_0_1 := c_w6_w5_0 1
      conv at c_w6_w5_0_1 => rhs; simp [go_sem, *]
      have f_w6_w5_0_1 := f_w6_w5_0 1
      conv at f_w6_w5_0_1 => rhs; simp [go_sem, *]
      have c_w6_w5_0_2 := c_w6_w5_0 2
      conv at c_w6_w5_0_2 => rhs; simp [go_sem, *]
      have f_w6_w5_0_2 := f_w6_w5_0 2
      conv at f_w6_w5_0_2 => rhs; simp [go_sem, *]
      have c_w6_w5_0_3 := c_w6_w5_0 3
      conv at c_w6_w5_0_3 => rhs; simp [go_sem, *]
      have f_w6_w5_0_3 := f_w6_w5_0 3
      conv at f_w6_w5_0_3 => rhs; simp [go_sem, *]
      have c_w6_w5_0_4 := c_w6_w5_0 4
      conv at c_w6_w5_0_4 => rhs; simp [go_sem, *]
      have f_w6_w5_0_4 := f_w6_w5_0 4
      conv at f_w6_w5_0_4 => rhs; simp [go_sem, *]
      have c_w6_w5_0_5 := c_w6_w5_0 5
      conv at c_w6_w5_0_5 => rhs; simp [go_sem, *]
      have f_w6_w5_0_5 := f_w6_w5_0 5
      conv at f_w6_w5_0_5 => rhs; simp [go_sem, *]
      have hB_w6 : Below w.heap.size w w6 := Below.trans (by (repeat (first | (with_reducible exact Below.refl _ _) | (with_reducible assumption) | (with_reducible refine Below.drew ?_) | (focus ((with_reducible refine Below.setCell ?_ ?_ _); rotate_left; (first | omega | (simp <;> omega)))) | (focus ((with_reducible refine Below.alloc ?_ ?_ _); rotate_left; (first | omega | (simp <;> omega)))) | exact Below.refl _ _ | assumption | refine Below.drew ?_ | refine Below.alloc ?_ (by first | omega | (simp <;> omega)) _ | refine Below.setCell ?_ (by first | omega | (simp <;> omega)) _))) (hb_w6.mono (by first | omega | (simp <;> omega)))
      clear hb_w6 c_w6_w3_0 f_w6_w3_0 c_w6_w5_0 f_w6_w5_0
      try clear c_w5_w3_0_0
      try clear f_w5_w3_0_0
      try clear c_w5_w3_0_1
      try clear f_w5_w3_0_1
      try clear c_w5_w3_0_2
      try clear f_w5_w3_0_2
      try clear c_w5_w3_0_3
      try clear f_w5_w3_0_3
      try clear c_w5_w3_0_4
      try clear f_w5_w3_0_4
      try clear c_w5_w3_0_5
      try clear f_w5_w3_0_5
      try clear far_w5_w3_0
      try clear hB_w5
      have far_w6_w3_0 := far (show w3.heap.size < w6.heap.size by omega)
      have far_w6_w5_0 := far (show w5.heap.size < w6.heap.size by omega)
      go_wp2_with fail
      refine Calls.mono (C6.out (by simp) _ (by (repeat (first | (with_reducible exact Below.refl _ _) | (with_reducible assumption) | (with_reducible refine Below.drew ?_) | (focus ((with_reducible refine Below.setCell ?_ ?_ _); rotate_left; (first | omega | (simp <;> omega)))) | (focus ((with_reducible refine Below.alloc ?_ ?_ _); rotate_left; (first | omega | (simp <;> omega)))) | exact Below.refl _ _ | assumption | refine Below.drew ?_ | refine Below.alloc ?_ (by first | omega | (simp <;> omega)) _ | refine Below.setCell ?_ (by first | omega | (simp <;> omega)) _)))) ?_
      rintro e w7 ⟨rfl, hb_w7⟩
      have hz_w7 := hb_w7.size
      try simp at hz_w7
      obtain ⟨c_w7_w3_0, f_w7_w3_0⟩ := bk hb_w7 (w3.heap.size) (by first | omega | (simp <;> omega))
      have c_w7_w3_0_0 := c_w7_w3_0 0
      conv at c_w7_w3_0_0 => rhs; simp [go_sem, *]
      have f_w7_w3_0_0 := f_w7_w3_0 0
      conv at f_w7_w3_0_0 => rhs; simp [go_sem, *]
      have c_w7_w3_0_1 := c_w7_w3_0 1
      conv at c_w7_w3_0_1 => rhs; simp [go_sem, *]
      have f_w7_w3_0_1 := f_w7_w3_0 1
      conv at f_w7_w3_0_1 => rhs; simp [go_sem, *]
      have c_w7_w3_0_2 := c_w7_w3_0 2
      conv at c_w7_w3_0_2 => rhs; simp [go_sem, *]
      have f_w7_w3_0_2 := f_w7_w3_0 2
      conv at f_w7_w3_0_2 => rhs; simp [go_sem, *]
      have c_w7_w3_0_3 := c_w7_w3_0 3
      conv at c_w7_w3_0_3 => rhs; simp [go_sem, *]
      have f_w7_w3_0_3 := f_w7_w3_0 3
      conv at f_w7_w3_0_3 => rhs; simp [go_sem, *]
      have c_w7_w3_0_4 := c_w7_w3_0 4
      conv at c_w7_w3_0_4 => rhs; simp [go_sem, *]
      have f_w7_w3_0_4 := f_w7_w3_0 4
      conv at f_w7_w3_0_4 => rhs; simp [go_sem, *]
      have c_w7_w3_0_5 := c_w7_w3_0 5
      conv at c_w7_w3_0_5 => rhs; simp [go_sem, *]
      have f_w7_w3_0_5 := f_w7_w3_0 5
      conv at f_w7_w3_0_5 => rhs; simp [go_sem, *]
      obtain ⟨c_w7_w5_0, f_w7_w5_0⟩ := bk hb_w7 (w5.heap.size) (by first | omega | (simp <;> omega))
      have c_w7_w5_0_0 := c_w7_w5_0 0
      conv at c_w7_w5_0_0 => rhs; simp [go_sem, *]
      have f_w7_w5_0_0 := f_w7_w5_0 0
      conv at f_w7_w5_0_0 => rhs; simp [go_sem, *]
      have c_w7_w5_0_1 := c_w7_w5_0 1
      conv at c_w7_w5_0_1 => rhs; simp [go_sem, *]
      have f_w7_w5_0_1 := f_w7_w5_0 1
      conv at f_w7_w5_0_1 => rhs; simp [go_sem, *]
      have c_w7_w5_0_2 := c_w7_w5_0 2
      conv at c_w7_w5_0_2 => rhs; simp [go_sem, *]
      have f_w7_w5_0_2 := f_w7_w5_0 2
      conv at f_w7_w5_0_2 => rhs; simp [go_sem, *]
      have c_w7_w5_0_3 := c_w7_w5_0 3
      conv at c_w7_w5_0_3 => rhs; simp [go_sem, *]
      have f_w7_w5_0_3 := f_w7_w5_0 3
      conv at f_w7_w5_0_3 => rhs; simp [go_sem, *]
      have c_w7_w5_0_4 := c_w7_w5_0 4
      conv at c_w7_w5_0_4 => rhs; simp [go_sem, *]
      have f_w7_w5_0_4 := f_w7_w5_0 4
      conv at f_w7_w5_0_4 => rhs; simp [go_sem, *]
      have c_w7_w5_0_5 := c_w7_w5_0 5
      conv at c_w7_w5_0_5 => rhs; simp [go_sem, *]
      have f_w7_w5_0_5 := f_w7_w5_0 5
      conv at f_w7_w5_0_5 => rhs; simp [go_sem, *]
      have hB_w7 : Below w.heap.size w w7 := Below.trans (by (repeat (first | (with_reducible exact Below.refl _ _) | (with_reducible assumption) | (with_reducible refine Below.drew ?_) | (focus ((with_reducible refine Below.setCell ?_ ?_ _); rotate_left; (first | omega | (simp <;> omega)))) | (focus ((with_reducible refine Below.alloc ?_ ?_ _); rotate_left; (first | omega | (simp <;> omega)))) | exact Below.refl _ _ | assumption | refine Below.drew ?_ | refine Below.alloc ?_ (by first | omega | (simp <;> omega)) _ | refine Below.setCell ?_ (by first | omega | (simp <;> omega)) _))) (hb_w7.mono (by first | omega | (simp <;> omega)))
      clear hb_w7 c_w7_w3_0 f_w7_w3_0 c_w7_w5_0 f_w7_w5_0
      try clear c_w6_w3_0_0
      try clear f_w6_w3_0_0
      try clear c_w6_w3_0_1
      try clear f_w6_w3_0_1
      try clear c_w6_w3_0_2
      try clear f_w6_w3_0_2
      try clear c_w6_w3_0_3
      try clear f_w6_w3_0_3
      try clear c_w6_w3_0_4
      try clear f_w6_w3_0_4
      try clear c_w6_w3_0_5
      try clear f_w6_w3_0_5
      try clear c_w6_w5_0_0
      try clear f_w6_w5_0_0
      try clear c_w6_w5_0_1
      try clear f_w6_w5_0_1
      try clear c_w6_w5_0_2
      try clear f_w6_w5_0_2
      try clear c_w6_w5_0_3
      try clear f_w6_w5_0_3
      try clear c_w6_w5_0_4
      try clear f_w6_w5_0_4
      try clear c_w6_w5_0_5
      try clear f_w6_w5_0_5
      try clear far_w6_w3_0
      try clear far_w6_w5_0
      try clear hB_w6
      have far_w7_w3_0 := far (show w3.heap.size < w7.heap.size by omega)
      have far_w7_w5_0 := far (show w5.heap.size < w7.heap.size by omega)
      go_wp2
      go_ret
      refine ⟨ret_bool (by simp), ?_⟩
      (repeat (first | (with_reducible exact Below.refl _ _) | (with_reducible assumption) | (with_reducible refine Below.drew ?_) | (focus ((with_reducible refine Below.setCell ?_ ?_ _); rotate_left; (first | omega | (simp <;> omega)))) | (focus ((with_reducible refine Below.alloc ?_ ?_ _); rotate_left; (first | omega | (simp <;> omega)))) | exact Below.refl _ _ | assumption | refine Below.drew ?_ | refine Below.alloc ?_ (by first | omega | (simp <;> omega)) _ | refine Below.setCell ?_ (by first | omega | (simp <;> omega)) _))
    | true =>
      simp only [if_true] at C1
      go_wp2_with fail
      refine Calls.mono (C1.out _ (by (repeat (first | (with_reducible exact Below.refl _ _) | (with_reducible assumption) | (with_reducible refine Below.drew ?_) | (focus ((with_reducible refine Below.setCell ?_ ?_ _); rotate_left; (first | omega | (simp <;> omega)))) | (focus ((with_reducible refine Below.alloc ?_ ?_ _); rotate_left; (first | omega | (simp <;> omega)))) | exact Below.refl _ _ | assumption | refine Below.drew ?_ | refine Below.alloc ?_ (by first | omega | (simp <;> omega)) _ | refine Below.setCell ?_ (by first | omega | (simp <;> omega)) _)))) ?_
      rintro e w2 ⟨rfl, hb_w2⟩
      have hz_w2 := hb_w2.size
      try simp at hz_w2
      obtain ⟨c_w2_w_0, f_w2_w_0⟩ := bk hb_w2 (w.heap.size) (by first | omega | (simp <;> omega))
      have c_w2_w_0_0 := c_w2_w_0 0
      conv at c_w2_w_0_0 => rhs; simp [go_sem, *]
      have f_w2_w_0_0 := f_w2_w_0 0
      conv at f_w2_w_0_0 => rhs; simp [go_sem, *]
      have c_w2_w_0_1 := c_w2_w_0 1
      conv at c_w2_w_0_1 => rhs; simp [go_sem, *]
      have f_w2_w_0_1 := f_w2_w_0 1
      conv at f_w2_w_0_1 => rhs; simp [go_sem, *]
      have c_w2_w_0_2 := c_w2_w_0 2
      conv at c_w2_w_0_2 => rhs; simp [go_sem, *]
      have f_w2_w_0_2 := f_w2_w_0 2
      conv at f_w2_w_0_2 => rhs; simp [go_sem, *]
      have c_w2_w_0_3 := c_w2_w_0 3
      conv at c_w2_w_0_3 => rhs; simp [go_sem, *]
      have f_w2_w_0_3 := f_w2_w_0 3
      conv at f_w2_w_0_3 => rhs; simp [go_sem, *]
      have c_w2_w_0_4 := c_w2_w_0 4
      conv at c_w2_w_0_4 => rhs; simp [go_sem, *]
      have f_w2_w_0_4 := f_w2_w_0 4
      conv at f_w2_w_0_4 => rhs; simp [go_sem, *]
      have c_w2_w_0_5 := c_w2_w_0 5
      conv at c_w2_w_0_5 => rhs; simp [go_sem, *]
      have f_w2_w_0_5 := f_w2_w_0 5
      conv at f_w2_w_0_5 => rhs; simp [go_sem, *]
      have hB_w2 : Below w.heap.size w w2 := Below.trans (by (repeat (first | (with_reducible exact Below.refl _ _) | (with_reducible assumption) | (with_reducible refine Below.drew ?_) | (focus ((with_reducible refine Below.setCell ?_ ?_ _); rotate_left; (first | omega | (simp <;> omega)))) | (focus ((with_reducible refine Below.alloc ?_ ?_ _); rotate_left; (first | omega | (simp <;> omega)))) | exact Below.refl _ _ | assumption | refine Below.drew ?_ | refine Below.alloc ?_ (by first | omega | (simp <;> omega)) _ | refine Below.setCell ?_ (by first | omega | (simp <;> omega)) _))) (hb_w2.mono (by first | omega | (simp <;> omega)))
      clear hb_w2 c_w2_w_0 f_w2_w_0
      try clear c_w7_w3_0_0
      try clear f_w7_w3_0_0
      try clear c_w7_w3_0_1
      try clear f_w7_w3_0_1
      try clear c_w7_w3_0_2
      try clear f_w7_w3_0_2
      try clear c_w7_w3_0_3
      try clear f_w7_w3_0_3
      try clear c_w7_w3_0_4
      try clear f_w7_w3_0_4
      try clear c_w7_w3_0_5
      try clear f_w7_w3_0_5
      try clear c_w7_w5_0_0
      try clear f_w7_w5_0_0
      try clear c_w7_w5_0_1
      try clear f_w7_w5_0_1
      try clear c_w7_w5_0_2
      try clear f_w7_w5_0_2
      try clear c_w7_w5_0_3
      try clear f_w7_w5_0_3
      try clear c_w7_w5_0_4
      try clear f_w7_w5_0_4
      try clear c_w7_w5_0_5
      try clear f_w7_w5_0_5
      try clear far_w7_w3_0
      try clear far_w7_w5_0
      try clear hB_w7
      have far_w2_w_0 := far (show w.heap.size < w2.heap.size by omega)
      go_wp2_with fail
      refine Calls.mono (C2.out (by simp) _ (by (repeat (first | (with_reducible exact Below.refl _ _) | (with_reducible assumption) | (with_reducible refine Below.drew ?_) | (focus ((with_reducible refine Below.setCell ?_ ?_ _); rotate_left; (first | omega | (simp <;> omega)))) | (focus ((with_reducible refine Below.alloc ?_ ?_ _); rotate_left; (first | omega | (simp <;> omega)))) | exact Below.refl _ _ | assumption | refine Below.drew ?_ | refine Below.alloc ?_ (by first | omega | (simp <;> omega)) _ | refine Below.setCell ?_ (by first | omega | (simp <;> omega)) _)))) ?_
      rintro e w8 ⟨rfl, hb_w8⟩
      have hz_w8 := hb_w8.size
      try simp at hz_w8
      obtain ⟨c_w8_w_0, f_w8_w_0⟩ := bk hb_w8 (w.heap.size) (by first | omega | (simp <;> omega))
      have c_w8_w_0_0 := c_w8_w_0 0
      conv at c_w8_w_0_0 => rhs; simp [go_sem, *]
      have f_w8_w_0_0 := f_w8_w_0 0
      conv at f_w8_w_0_0 => rhs; simp [go_sem, *]
      have c_w8_w_0_1 := c_w8_w_0 1
      conv at c_w8_w_0_1 => rhs; simp [go_sem, *]
      have f_w8_w_0_1 := f_w8_w_0 1
      conv at f_w8_w_0_1 => rhs; simp [go_sem, *]
      have c_w8_w_0_2 := c_w8_w_0 2
      conv at c_w8_w_0_2 => rhs; simp [go_sem, *]
      have f_w8_w_0_2 := f_w8_w_0 2
      conv at f_w8_w_0_2 => rhs; simp [go_sem, *]
      have c_w8_w_0_3 := c_w8_w_0 3
      conv at c_w8_w_0_3 => rhs; simp [go_sem, *]
      have f_w8_w_0_3 := f_w8_w_0 3
      conv at f_w8_w_0_3 => rhs; simp [go_sem, *]
      have c_w8_w_0_4 := c_w8_w_0 4
      conv at c_w8_w_0_4 => rhs; simp [go_sem, *]
      have f_w8_w_0_4 := f_w8_w_0 4
      conv at f_w8_w_0_4 => rhs; simp [go_sem, *]
      have c_w8_w_0_5 := c_w8_w_0 5
      conv at c_w8_w_0_5 => rhs; simp [go_sem, *]
      have f_w8_w_0_5 := f_w8_w_0 5
      conv at f_w8_w_0_5 => rhs; simp [go_sem, *]
      have hB_w8 : Below w.heap.size w w8 := Below.trans (by (repeat (first | (with_reducible exact Below.refl _ _) | (with_reducible assumption) | (with_reducible refine Below.drew ?_) | (focus ((with_reducible refine Below.setCell ?_ ?_ _); rotate_left; (first | omega | (simp <;> omega)))) | (focus ((with_reducible refine Below.alloc ?_ ?_ _); rotate_left; (first | omega | (simp <;> omega)))) | exact Below.refl _ _ | assumption | refine Below.drew ?_ | refine Below.alloc ?_ (by first | omega | (simp <;> omega)) _ | refine Below.setCell ?_ (by first | omega | (simp <;> omega)) _))) (hb_w8.mono (by first | omega | (simp <;> omega)))
      clear hb_w8 c_w8_w_0 f_w8_w_0
      try clear c_w2_w_0_0
      try clear f_w2_w_0_0
      try clear c_w2_w_0_1
      try clear f_w2_w_0_1
      try clear c_w2_w_0_2
      try clear f_w2_w_0_2
      try clear c_w2_w_0_3
      try clear f_w2_w_0_3
      try clear c_w2_w_0_4
      try clear f_w2_w_0_4
      try clear c_w2_w_0_5
      try clear f_w2_w_0_5
      try clear far_w2_w_0
      try clear hB_w2
      have far_w8_w_0 := far (show w.heap.size < w8.heap.size by omega)
      go_wp2_with fail
      refine Calls.mono (C3.out _ (by (repeat (first | (with_reducible exact Below.refl _ _) | (with_reducible assumption) | (with_reducible refine Below.drew ?_) | (focus ((with_reducible refine Below.setCell ?_ ?_ _); rotate_left; (first | omega | (simp <;> omega)))) | (focus ((with_reducible refine Below.alloc ?_ ?_ _); rotate_left; (first | omega | (simp <;> omega)))) | exact Below.refl _ _ | assumption | refine Below.drew ?_ | refine Below.alloc ?_ (by first | omega | (simp <;> omega)) _ | refine Below.setCell ?_ (by first | omega | (simp <;> omega)) _)))) ?_
      rintro e w3 ⟨rfl, hb_w3⟩
      have hz_w3 := hb_w3.size
      try simp at hz_w3
      have hB_w3 : Below w.heap.size w w3 := Below.trans (by (repeat (first | (with_reducible exact Below.refl _ _) | (with_reducible assumption) | (with_reducible refine Below.drew ?_) | (focus ((with_reducible refine Below.setCell ?_ ?_ _); rotate_left; (first | omega | (simp <;> omega)))) | (focus ((with_reducible refine Below.alloc ?_ ?_ _); rotate_left; (first | omega | (simp <;> omega)))) | exact Below.refl _ _ | assumption | refine Below.drew ?_ | refine Below.alloc ?_ (by first | omega | (simp <;> omega)) _ | refine Below.setCell ?_ (by first | omega | (simp <;> omega)) _))) (hb_w3.mono (by first | omega | (simp <;> omega)))
      clear hb_w3
      try clear c_w8_w_0_0
      try clear f_w8_w_0_0
      try clear c_w8_w_0_1
      try clear f_w8_w_0_1
      try clear c_w8_w_0_2
      try clear f_w8_w_0_2
      try clear c_w8_w_0_3
      try clear f_w8_w_0_3
      try clear c_w8_w_0_4
      try clear f_w8_w_0_4
      try clear c_w8_w_0_5
      try clear f_w8_w_0_5
      try clear far_w8_w_0
      try clear hB_w8
      go_wp2_with fail
      refine Calls.mono (C4.out (by simp) _ (by (repeat (first | (with_reducible exact Below.refl _ _) | (with_reducible assumption) | (with_reducible refine Below.drew ?_) | (focus ((with_reducible refine Below.setCell ?_ ?_ _); rotate_left; (first | omega | (simp <;> omega)))) | (focus ((with_reducible refine Below.alloc ?_ ?_ _); rotate_left; (first | omega | (simp <;> omega)))) | exact Below.refl _ _ | assumption | refine Below.drew ?_ | refine Below.alloc ?_ (by first | omega | (simp <;> omega)) _ | refine Below.setCell ?_ (by first | omega | (simp <;> omega)) _)))) ?_
      rintro e w4 ⟨rfl, hb_w4⟩
      have hz_w4 := hb_w4.size
      try simp at hz_w4
      obtain ⟨c_w4_w3_0, f_w4_w3_0⟩ := bk hb_w4 (w3.heap.size) (by first | omega | (simp <;> omega))
      have c_w4_w3_0_0 := c_w4_w3_0 0
      conv at c_w4_w3_0_0 => rhs; simp [go_sem, *]
      have f_w4_w3_0_0 := f_w4_w3_0 0
      conv at f_w4_w3_0_0 => rhs; simp [go_sem, *]
      have c_w4_w3_0_1 := c_w4_w3_0 1
      conv at c_w4_w3_0_1 => rhs; simp [go_sem, *]
      have f_w4_w3_0_1 := f_w4_w3_0 1
      conv at f_w4_w3_0_1 => rhs; simp [go_sem, *]
      have c_w4_w3_0_2 := c_w4_w3_0 2
      conv at c_w4_w3_0_2 => rhs; simp [go_sem, *]
      have f_w4_w3_0_2 := f_w4_w3_0 2
      conv at f_w4_w3_0_2 => rhs; simp [go_sem, *]
      have c_w4_w3_0_3 := c_w4_w3_0 3
      conv at c_w4_w3_0_3 => rhs; simp [go_sem, *]
      have f_w4_w3_0_3 := f_w4_w3_0 3
      conv at f_w4_w3_0_3 => rhs; simp [go_sem, *]
      have c_w4_w3_0_4 := c_w4_w3_0 4
      conv at c_w4_w3_0_4 => rhs; simp [go_sem, *]
      have f_w4_w3_0_4 := f_w4_w3_0 4
      conv at f_w4_w3_0_4 => rhs; simp [go_sem, *]
      have c_w4_w3_0_5 := c_w4_w3_0 5
      conv at c_w4_w3_0_5 => rhs; simp [go_sem, *]
      have f_w4_w3_0_5 := f_w4_w3_0 5
      conv at f_w4_w3_0_5 => rhs; simp [go_sem, *]
      have hB_w4 : Below w.heap.size w w4 := Below.trans (by (repeat (first | (with_reducible exact Below.refl _ _) | (with_reducible assumption) | (with_reducible refine Below.drew ?_) | (focus ((with_reducible refine Below.setCell ?_ ?_ _); rotate_left; (first | omega | (simp <;> omega)))) | (focus ((with_reducible refine Below.alloc ?_ ?_ _); rotate_left; (first | omega | (simp <;> omega)))) | exact Below.refl _ _ | assumption | refine Below.drew ?_ | refine Below.alloc ?_ (by first | omega | (simp <;> omega)) _ | refine Below.setCell ?_ (by first | omega | (simp <;> omega)) _))) (hb_w4.mono (by first | omega | (simp <;> omega)))
      clear hb_w4 c_w4_w3_0 f_w4_w3_0
      try clear hB_w3
      have far_w4_w3_0 := far (show w3.heap.size < w4.heap.size by omega)
      go_wp2_with fail
      refine Calls.mono (C5.out (by simp) _ (by (repeat (first | (with_reducible exact Below.refl _ _) | (with_reducible assumption) | (with_reducible refine Below.drew ?_) | (focus ((with_reducible refine Below.setCell ?_ ?_ _); rotate_left; (first | omega | (simp <;> omega)))) | (focus ((with_reducible refine Below.alloc ?_ ?_ _); rotate_left; (first | omega | (simp <;> omega)))) | exact Below.refl _ _ | assumption | refine Below.drew ?_ | refine Below.alloc ?_ (by first | omega | (simp <;> omega)) _ | refine Below.setCell ?_ (by first | omega | (simp <;> omega)) _)))) ?_
      rintro e w5 ⟨rfl, hb_w5⟩
      have hz_w5 := hb_w5.size
      try simp at hz_w5
      obtain ⟨c_w5_w3_0, f_w5_w3_0⟩ := bk hb_w5 (w3.heap.size) (by first | omega | (simp <;> omega))
      have c_w5_w3_0_0 := c_w5_w3_0 0
      conv at c_w5_w3_0_0 => rhs; simp [go_sem, *]
      have f_w5_w3_0_0 := f_w5_w3_0 0
      conv at f_w5_w3_0_0 => rhs; simp [go_sem, *]
      have c_w5_w3_0_1 := c_w5_w3_0 1
      conv at c_w5_w3_0_1 => rhs; simp [go_sem, *]
      have f_w5_w3_0_1 := f_w5_w3_0 1
      conv at f_w5_w3_0_1 => rhs; simp [go_sem, *]
      have c_w5_w3_0_2 := c_w5_w3_0 2
      conv at c_w5_w3_0_2 => rhs; simp [go_sem, *]
      have f_w5_w3_0_2 := f_w5_w3_0 2
      conv at f_w5_w3_0_2 => rhs; simp [go_sem, *]
      have c_w5_w3_0_3 := c_w5_w3_0 3
      conv at c_w5_w3_0_3 => rhs; simp [go_sem, *]
      have f_w5_w3_0_3 := f_w5_w3_0 3
      conv at f_w5_w3_0_3 => rhs; simp [go_sem, *]
      have c_w5_w3_0_4 := c_w5_w3_0 4
      conv at c_w5_w3_0_4 => rhs; simp [go_sem, *]
      have f_w5_w3_0_4 := f_w5_w3_0 4
      conv at f_w5_w3_0_4 => rhs; simp [go_sem, *]
      have c_w5_w3_0_5 := c_w5_w3_0 5
      conv at c_w5_w3_0_5 => rhs; simp [go_sem, *]
      have f_w5_w3_0_5 := f_w5_w3_0 5
      conv at f_w5_w3_0_5 => rhs; simp [go_sem, *]
      have hB_w5 : Below w.heap.size w w5 := Below.trans (by (repeat (first | (with_reducible exact Below.refl _ _) | (with_reducible assumption) | (with_reducible refine Below.drew ?_) | (focus ((with_reducible refine Below.setCell ?_ ?_ _); rotate_left; (first | omega | (simp <;> omega)))) | (focus ((with_reducible refine Below.alloc ?_ ?_ _); rotate_left; (first | omega | (simp <;> omega)))) | exact Below.refl _ _ | assumption | refine Below.drew ?_ | refine Below.alloc ?_ (by first | omega | (simp <;> omega)) _ | refine Below.setCell ?_ (by first | omega | (simp <;> omega)) _))) (hb_w5.mono (by first | omega | (simp <;> omega)))
      clear hb_w5 c_w5_w3_0 f_w5_w3_0
      try clear c_w4_w3_0_0
      try clear f_w4_w3_0_0
      try clear c_w4_w3_0_1
      try clear f_w4_w3_0_1
      try clear c_w4_w3_0_2
      try clear f_w4_w3_0_2
      try clear c_w4_w3_0_3
      try clear f_w4_w3_0_3
      try clear c_w4_w3_0_4
      try clear f_w4_w3_0_4
      try clear c_w4_w3_0_5
      try clear f_w4_w3_0_5
      try clear far_w4_w3_0
      try clear hB_w4
      have far_w5_w3_0 := far (show w3.heap.size < w5.heap.size by omega)
      go_wp2_with fail
      refine Calls.mono (clean_alive _) ?_
      rintro e w6 ⟨rfl, hb_w6⟩
      have hz_w6 := hb_w6.size
      try simp at hz_w6
      obtain ⟨c_w6_w3_0, f_w6_w3_0⟩ := bk hb_w6 (w3.heap.size) (by first | omega | (simp <;> omega))
      have c_w6_w3_0_0 := c_w6_w3_0 0
      conv at c_w6_w3_0_0 => rhs; simp [go_sem, *]
      have f_w6_w3_0_0 := f_w6_w3_0 0
      conv at f_w6_w3_0_0 => rhs; simp [go_sem, *]
      have c_w6_w3_0_1 := c_w6_w3_0 1
      conv at c_w6_w3_0_1 => rhs; simp [go_sem, *]
      have f_w6_w3_0_1 := f_w6_w3_0 1
      conv at f_w6_w3_0_1 => rhs; simp [go_sem, *]
      have c_w6_w3_0_2 := c_w6_w3_0 2
      conv at c_w6_w3_0_2 => rhs; simp [go_sem, *]
      have f_w6_w3_0_2 := f_w6_w3_0 2
      conv at f_w6_w3_0_2 => rhs; simp [go_sem, *]
      have c_w6_w3_0_3 := c_w6_w3_0 3
      conv at c_w6_w3_0_3 => rhs; simp [go_sem, *]
      have f_w6_w3_0_3 := f_w6_w3_0 3
      conv at f_w6_w3_0_3 => rhs; simp [go_sem, *]
      have c_w6_w3_0_4 := c_w6_w3_0 4
      conv at c_w6_w3_0_4 => rhs; simp [go_sem, *]
      have f_w6_w3_0_4 := f_w6_w3_0 4
      conv at f_w6_w3_0_4 => rhs; simp [go_sem, *]
      have c_w6_w3_0_5 := c_w6_w3_0 5
      conv at c_w6_w3_0_5 => rhs; simp [go_sem, *]
      have f_w6_w3_0_5 := f_w6_w3_0 5
      conv at f_w6_w3_0_5 => rhs; simp [go_sem, *]
      obtain ⟨c_w6_w5_0, f_w6_w5_0⟩ := bk hb_w6 (w5.heap.size) (by first | omega | (simp <;> omega))
      have c_w6_w5_0_0 := c_w6_w5_0 0
      conv at c_w6_w5_0_0 => rhs; simp [go_sem, *]
      have f_w6_w5_0_0 := f_w6_w5_0 0
      conv at f_w6_w5_0_0 => rhs; simp [go_sem, *]
      have c_w6_w5_0_1 := c_w6_w5_0 1
      conv at c_w6_w5_0_1 => rhs; simp [go_sem, *]
      have f_w6_w5_0_1 := f_w6_w5_0 1
      conv at f_w6_w5_0_1 => rhs; simp [go_sem, *]
      have c_w6_w5_0_2 := c_w6_w5_0 2
      conv at c_w6_w5_0_2 => rhs; simp [go_sem, *]
      have f_w6_w5_0_2 := f_w6_w5_0 2
      conv at f_w6_w5_0_2 => rhs; simp [go_sem, *]
      have c_w6_w5_0_3 := c_w6_w5_0 3
      conv at c_w6_w5_0_3 => rhs; simp [go_sem, *]
      have f_w6_w5_0_3 := f_w6_w5_0 3
      conv at f_w6_w5_0_3 => rhs; simp [go_sem, *]
      have c_w6_w5_0_4 := c_w6_w5_0 4
      conv at c_w6_w5_0_4 => rhs; simp [go_sem, *]
      have f_w6_w5_0_4 := f_w6_w5_0 4
      conv at f_w6_w5_0_4 => rhs; simp [go_sem, *]
      have c_w6_w5_0_5 := c_w6_w5_0 5
      conv at c_w6_w5_0_5 => rhs; simp [go_sem, *]
      have f_w6_w5_0_5 := f_w6_w5_0 5
      conv at f_w6_w5_0_5 => rhs; simp [go_sem, *]
      have hB_w6 : Below w.heap.size w w6 := Below.trans (by (repeat (first | (with_reducible exact Below.refl _ _) | (with_reducible assumption) | (with_reducible refine Below.drew ?_) | (focus ((with_reducible refine Below.setCell ?_ ?_ _); rotate_left; (first | omega | (simp <;> omega)))) | (focus ((with_reducible refine Below.alloc ?_ ?_ _); rotate_left; (first | omega | (simp <;> omega)))) | exact Below.refl _ _ | assumption | refine Below.drew ?_ | refine Below.alloc ?_ (by first | omega | (simp <;> omega)) _ | refine Below.setCell ?_ (by first | omega | (simp <;> omega)) _))) (hb_w6.mono (by first | omega | (simp <;> omega)))
      clear hb_w6 c_w6_w3_0 f_w6_w3_0 c_w6_w5_0 f_w6_w5_0
      try clear c_w5_w3_0_0
      try clear f_w5_w3_0_0
      try clear c_w5_w3_0_1
      try clear f_w5_w3_0_1
      try clear c_w5_w3_0_2
      try clear f_w5_w3_0_2
      try clear c_w5_w3_0_3
      try clear f_w5_w3_0_3
      try clear c_w5_w3_0_4
      try clear f_w5_w3_0_4
      try clear c_w5_w3_0_5
      try clear f_w5_w3_0_5
      try clear far_w5_w3_0
      try clear hB_w5
      have far_w6_w3_0 := far (show w3.heap.size < w6.heap.size by omega)
      have far_w6_w5_0 := far (show w5.heap.size < w6.heap.size by omega)
      go_wp2_with fail
      refine Calls.mono (C6.out (by simp) _ (by (repeat (first | (with_reducible exact Below.refl _ _) | (with_reducible assumption) | (with_reducible refine Below.drew ?_) | (focus ((with_reducible refine Below.setCell ?_ ?_ _); rotate_left; (first | omega | (simp <;> omega)))) | (focus ((with_reducible refine Below.alloc ?_ ?_ _); rotate_left; (first | omega | (simp <;> omega)))) | exact Below.refl _ _ | assumption | refine Below.drew ?_ | refine Below.alloc ?_ (by first | omega | (simp <;> omega)) _ | refine Below.setCell ?_ (by first | omega | (simp <;> omega)) _)))) ?_
      rintro e w7 ⟨rfl, hb_w7⟩
      have hz_w7 := hb_w7.size
      try simp at hz_w7
      obtain ⟨c_w7_w3_0, f_w7_w3_0⟩ := bk hb_w7 (w3.heap.size) (by first | omega | (simp <;> omega))
      have c_w7_w3_0_0 := c_w7_w3_0 0
      conv at c_w7_w3_0_0 => rhs; simp [go_sem, *]
      have f_w7_w3_0_0 := f_w7_w3_0 0
      conv at f_w7_w3_0_0 => rhs; simp [go_sem, *]
      have c_w7_w3_0_1 := c_w7_w3_0 1
      conv at c_w7_w3_0_1 => rhs; simp [go_sem, *]
      have f_w7_w3_0_1 := f_w7_w3_0 1
      conv at f_w7_w3_0_1 => rhs; simp [go_sem, *]
      have c_w7_w3_0_2 := c_w7_w3_0 2
      conv at c_w7_w3_0_2 => rhs; simp [go_sem, *]
      have f_w7_w3_0_2 := f_w7_w3_0 2
      conv at f_w7_w3_0_2 => rhs; simp [go_sem, *]
      have c_w7_w3_0_3 := c_w7_w3_0 3
      conv at c_w7_w3_0_3 => rhs; simp [go_sem, *]
      have f_w7_w3_0_3 := f_w7_w3_0 3
      conv at f_w7_w3_0_3 => rhs; simp [go_sem, *]
      have c_w7_w3_0_4 := c_w7_w3_0 4
      conv at c_w7_w3_0_4 => rhs; simp [go_sem, *]
      have f_w7_w3_0_4 := f_w7_w3_0 4
      conv at f_w7_w3_0_4 => rhs; simp [go_sem, *]
      have c_w7_w3_0_5 := c_w7_w3_0 5
      conv at c_w7_w3_0_5 => rhs; simp [go_sem, *]
      have f_w7_w3_0_5 := f_w7_w3_0 5
      conv at f_w7_w3_0_5 => rhs; simp [go_sem, *]
      obtain ⟨c_w7_w5_0, f_w7_w5_0⟩ := bk hb_w7 (w5.heap.size) (by first | omega | (simp <;> omega))
      have c_w7_w5_0_0 := c_w7_w5_0 0
      conv at c_w7_w5_0_0 => rhs; simp [go_sem, *]
      have f_w7_w5_0_0 := f_w7_w5_0 0
      conv at f_w7_w5_0_0 => rhs; simp [go_sem, *]
      have c_w7_w5_0_1 := c_w7_w5_0 1
      conv at c_w7_w5_0_1 => rhs; simp [go_sem, *]
      have f_w7_w5_0_1 := f_w7_w5_0 1
      conv at f_w7_w5_0_1 => rhs; simp [go_sem, *]
      have c_w7_w5_0_2 := c_w7_w5_0 2
      conv at c_w7_w5_0_2 => rhs; simp [go_sem, *]
      have f_w7_w5_0_2 := f_w7_w5_0 2
      conv at f_w7_w5_0_2 => rhs; simp [go_sem, *]
      have c_w7_w5_0_3 := c_w7_w5_0 3
      conv at c_w7_w5_0_3 => rhs; simp [go_sem, *]
      have f_w7_w5_0_3 := f_w7_w5_0 3
      conv at f_w7_w5_0_3 => rhs; simp [go_sem, *]
      have c_w7_w5_0_4 := c_w7_w5_0 4
      conv at c_w7_w5_0_4 => rhs; simp [go_sem, *]
      have f_w7_w5_0_4 := f_w7_w5_0 4
      conv at f_w7_w5_0_4 => rhs; simp [go_sem, *]
      have c_w7_w5_0_5 := c_w7_w5_0 5
      conv at c_w7_w5_0_5 => rhs; simp [go_sem, *]
      have f_w7_w5_0_5 := f_w7_w5_0 5
      conv at f_w7_w5_0_5 => rhs; simp [go_sem, *]
      have hB_w7 : Below w.heap.size w w7 := Below.trans (by (repeat (first | (with_reducible exact Below.refl _ _) | (with_reducible assumption) | (with_reducible refine Below.drew ?_) | (focus ((with_reducible refine Below.setCell ?_ ?_ _); rotate_left; (first | omega | (simp <;> omega)))) | (focus ((with_reducible refine Below.alloc ?_ ?_ _); rotate_left; (first | omega | (simp <;> omega)))) | exact Below.refl _ _ | assumption | refine Below.drew ?_ | refine Below.alloc ?_ (by first | omega | (simp <;> omega)) _ | refine Below.setCell ?_ (by first | omega | (simp <;> omega)) _))) (hb_w7.mono (by first | omega | (simp <;> omega)))
      clear hb_w7 c_w7_w3_0 f_w7_w3_0 c_w7_w5_0 f_w7_w5_0
      try clear c_w6_w3_0_0
      try clear f_w6_w3_0_0
      try clear c_w6_w3_0_1
      try clear f_w6_w3_0_1
      try clear c_w6_w3_0_2
      try clear f_w6_w3_0_2
      try clear c_w6_w3_0_3
      try clear f_w6_w3_0_3
      try clear c_w6_w3_0_4
      try clear f_w6_w3_0_4
      try clear c_w6_w3_0_5
      try clear f_w6_w3_0_5
      try clear c_w6_w5_0_0
      try clear f_w6_w5_0_0
      try clear c_w6_w5_0_1
      try clear f_w6_w5_0_1
      try clear c_w6_w5_0_2
      try clear f_w6_w5_0_2
      try clear c_w6_w5_0_3
      try clear f_w6_w5_0_3
      try clear c_w6_w5_0_4
      try clear f_w6_w5_0_4
      try clear c_w6_w5_0_5
      try clear f_w6_w5_0_5
      try clear far_w6_w3_0
      try clear far_w6_w5_0
      try clear hB_w6
      have far_w7_w3_0 := far (show w3.heap.size < w7.heap.size by omega)
      have far_w7_w5_0 := far (show w5.heap.size < w7.heap.size by omega)
      go_wp2
      go_ret
      refine ⟨ret_bool (by simp), ?_⟩
      (repeat (first | (with_reducible exact Below.refl _ _) | (with_reducible assumption) | (with_reducible refine Below.drew ?_) | (focus ((with_reducible refine Below.setCell ?_ ?_ _); rotate_left; (first | omega | (simp <;> omega)))) | (focus ((with_reducible refine Below.alloc ?_ ?_ _); rotate_left; (first | omega | (simp <;> omega)))) | exact Below.refl _ _ | assumption | refine Below.drew ?_ | refine Below.alloc ?_ (by first | omega | (simp <;> omega)) _ | refine Below.setCell ?_ (by first | omega | (simp <;> omega)) _))
  · obtain ⟨rfl, rfl, rfl, rfl, rfl, rfl⟩ := UU.mk.inj (HB.out hpe)
    have hpe1 : (pe != 0) = true := by simpa using hpe
    cases ok with
    | false =>
      simp only [Bool.false_eq_true, if_false] at C1
      go_wp2_with fail
      refine Calls.mono (C1.out _ (by (repeat (first | (with_reducible exact Below.refl _ _) | (with_reducible assumption) | (with_reducible refine Below.drew ?_) | (focus ((with_reducible refine Below.setCell ?_ ?_ _); rotate_left; (first | omega | (simp <;> omega)))) | (focus ((with_reducible refine Below.alloc ?_ ?_ _); rotate_left; (first | omega | (simp <;> omega)))) | exact Below.refl _ _ | assumption | refine Below.drew ?_ | refine Below.alloc ?_ (by first | omega | (simp <;> omega)) _ | refine Below.setCell ?_ (by first | omega | (simp <;> omega)) _)))) ?_
      rintro e w2 ⟨rfl, hb_w2⟩
      have hz_w2 := hb_w2.size
      try simp at hz_w2
      have hB_w2 : Below w.heap.size w w2 := Below.trans (by (repeat (first | (with_reducible exact Below.refl _ _) | (with_reducible assumption) | (with_reducible refine Below.drew ?_) | (focus ((with_reducible refine Below.setCell ?_ ?_ _); rotate_left; (first | omega | (simp <;> omega)))) | (focus ((with_reducible refine Below.alloc ?_ ?_ _); rotate_left; (first | omega | (simp <;> omega)))) | exact Below.refl _ _ | assumption | refine Below.drew ?_ | refine Below.alloc ?_ (by first | omega | (simp <;> omega)) _ | refine Below.setCell ?_ (by first | omega | (simp <;> omega)) _))) (hb_w2.mono (by first | omega | (simp <;> omega)))
      clear hb_w2
      try clear c_w7_w3_0_0
      try clear f_w7_w3_0_0
      try clear c_w7_w3_0_1
      try clear f_w7_w3_0_1
      try clear c_w7_w3_0_2
      try clear f_w7_w3_0_2
      try clear c_w7_w3_0_3
      try clear f_w7_w3_0_3
      try clear c_w7_w3_0_4
      try clear f_w7_w3_0_4
      try clear c_w7_w3_0_5
      try clear f_w7_w3_0_5
      try clear c_w7_w5_0_0
      try clear f_w7_w5_0_0
      try clear c_w7_w5_0_1
      try clear f_w7_w5_0_1
      try clear c_w7_w5_0_2
      try clear f_w7_w5_0_2
      try clear c_w7_w5_0_3
      try clear f_w7_w5_0_3
      try clear c_w7_w5_0_4
      try clear f_w7_w5_0_4
      try clear c_w7_w5_0_5
      try clear f_w7_w5_0_5
      try clear far_w7_w3_0
      try clear far_w7_w5_0
      try clear hB_w7
      go_wp2_with fail
      refine Calls.mono (C3.out _ (by (repeat (first | (with_reducible exact Below.refl _ _) | (with_reducible assumption) | (with_reducible refine Below.drew ?_) | (focus ((with_reducible refine Below.setCell ?_ ?_ _); rotate_left; (first | omega | (simp <;> omega)))) | (focus ((with_reducible refine Below.alloc ?_ ?_ _); rotate_left; (first | omega | (simp <;> omega)))) | exact Below.refl _ _ | assumption | refine Below.drew ?_ | refine Below.alloc ?_ (by first | omega | (simp <;> omega)) _ | refine Below.setCell ?_ (by first | omega | (simp <;> omega)) _)))) ?_
      rintro e w3 ⟨rfl, hb_w3⟩
      have hz_w3 := hb_w3.size
      try simp at hz_w3
      have hB_w3 : Below w.heap.size w w3 := Below.trans (by (repeat (first | (with_reducible exact Below.refl _ _) | (with_reducible assumption) | (with_reducible refine Below.drew ?_) | (focus ((with_reducible refine Below.setCell ?_ ?_ _); rotate_left; (first | omega | (simp <;> omega)))) | (focus ((with_reducible refine Below.alloc ?_ ?_ _); rotate_left; (first | omega | (simp <;> omega)))) | exact Below.refl _ _ | assumption | refine Below.drew ?_ | refine Below.alloc ?_ (by first | omega | (simp <;> omega)) _ | refine Below.setCell ?_ (by first | omega | (simp <;> omega)) _))) (hb_w3.mono (by first | omega | (simp <;> omega)))
      clear hb_w3
      try clear hB_w2
      go_wp2_with fail
      refine Calls.mono (clean_alive _) ?_
      rintro e w4 ⟨rfl, hb_w4⟩
      have hz_w4 := hb_w4.size
      try simp at hz_w4
      obtain ⟨c_w4_w3_0, f_w4_w3_0⟩ := bk hb_w4 (w3.heap.size) (by first | omega | (simp <;> omega))
      have c_w4_w3_0_0 := c_w4_w3_0 0
      conv at c_w4_w3_0_0 => rhs; simp [go_sem, *]
      have f_w4_w3_0_0 := f_w4_w3_0 0
      conv at f_w4_w3_0_0 => rhs; simp [go_sem, *]
      have c_w4_w3_0_1 := c_w4_w3_0 1
      conv at c_w4_w3_0_1 => rhs; simp [go_sem, *]
      have f_w4_w3_0_1 := f_w4_w3_0 1
      conv at f_w4_w3_0_1 => rhs; simp [go_sem, *]
      have c_w4_w3_0_2 := c_w4_w3_0 2
      conv at c_w4_w3_0_2 => rhs; simp [go_sem, *]
      have f_w4_w3_0_2 := f_w4_w3_0 2
      conv at f_w4_w3_0_2 => rhs; simp [go_sem, *]
      have c_w4_w3_0_3 := c_w4_w3_0 3
      conv at c_w4_w3_0_3 => rhs; simp [go_sem, *]
      have f_w4_w3_0_3 := f_w4_w3_0 3
      conv at f_w4_w3_0_3 => rhs; simp [go_sem, *]
      have c_w4_w3_0_4 := c_w4_w3_0 4
      conv at c_w4_w3_0_4 => rhs; simp [go_sem, *]
      have f_w4_w3_0_4 := f_w4_w3_0 4
      conv at f_w4_w3_0_4 => rhs; simp [go_sem, *]
      have c_w4_w3_0_5 := c_w4_w3_0 5
      conv at c_w4_w3_0_5 => rhs; simp [go_sem, *]
      have f_w4_w3_0_5 := f_w4_w3_0 5
      conv at f_w4_w3_0_5 => rhs; simp [go_sem, *]
      have hB_w4 : Below w.heap.size w w4 := Below.trans (by (repeat (first | (with_reducible exact Below.refl _ _) | (with_reducible assumption) | (with_reducible refine Below.drew ?_) | (focus ((with_reducible refine Below.setCell ?_ ?_ _); rotate_left; (first | omega | (simp <;> omega)))) | (focus ((with_reducible refine Below.alloc ?_ ?_ _); rotate_left; (first | omega | (simp <;> omega)))) | exact Below.refl _ _ | assumption | refine Below.drew ?_ | refine Below.alloc ?_ (by first | omega | (simp <;> omega)) _ | refine Below.setCell ?_ (by first | omega | (simp <;> omega)) _))) (hb_w4.mono (by first | omega | (simp <;> omega)))
      clear hb_w4 c_w4_w3_0 f_w4_w3_0
      try clear hB_w3
      have far_w4_w3_0 := far (show w3.heap.size < w4.heap.size by omega)
      go_wp2
      go_ret
      refine ⟨ret_bool (by simp), ?_⟩
      (repeat (first | (with_reducible exact Below.refl _ _) | (with_reducible assumption) | (with_reducible refine Below.drew ?_) | (focus ((with_reducible refine Below.setCell ?_ ?_ _); rotate_left; (first | omega | (simp <;> omega)))) | (focus ((with_reducible refine Below.alloc ?_ ?_ _); rotate_left; (first | omega | (simp <;> omega)))) | exact Below.refl _ _ | assumption | refine Below.drew ?_ | refine Below.alloc ?_ (by first | omega | (simp <;> omega)) _ | refine Below.setCell ?_ (by first | omega | (simp <;> omega)) _))
    | true =>
      simp only [if_true] at C1
      go_wp2_with fail
      refine Calls.mono (C1.out _ (by (repeat (first | (with_reducible exact Below.refl _ _) | (with_reducible assumption) | (with_reducible refine Below.drew ?_) | (focus ((with_reducible refine Below.setCell ?_ ?_ _); rotate_left; (first | omega | (simp <;> omega)))) | (focus ((with_reducible refine Below.alloc ?_ ?_ _); rotate_left; (first | omega | (simp <;> omega)))) | exact Below.refl _ _ | assumption | refine Below.drew ?_ | refine Below.alloc ?_ (by first | omega | (simp <;> omega)) _ | refine Below.setCell ?_ (by first | omega | (simp <;> omega)) _)))) ?_
      rintro e w2 ⟨rfl, hb_w2⟩
      have hz_w2 := hb_w2.size
      try simp at hz_w2
      obtain ⟨c_w2_w_0, f_w2_w_0⟩ := bk hb_w2 (w.heap.size) (by first | omega | (simp <;> omega))
      have c_w2_w_0_0 := c_w2_w_0 0
      conv at c_w2_w_0_0 => rhs; simp [go_sem, *]
      have f_w2_w_0_0 := f_w2_w_0 0
      conv at f_w2_w_0_0 => rhs; simp [go_sem, *]
      have c_w2_w_0_1 := c_w2_w_0 1
      conv at c_w2_w_0_1 => rhs; simp [go_sem, *]
      have f_w2_w_0_1 := f_w2_w_0 1
      conv at f_w2_w_0_1 => rhs; simp [go_sem, *]
      have c_w2_w_0_2 := c_w2_w_0 2
      conv at c_w2_w_0_2 => rhs; simp [go_sem, *]
      have f_w2_w_0_2 := f_w2_w_0 2
      conv at f_w2_w_0_2 => rhs; simp [go_sem, *]
      have c_w2_w_0_3 := c_w2_w_0 3
      conv at c_w2_w_0_3 => rhs; simp [go_sem, *]
      have f_w2_w_0_3 := f_w2_w_0 3
      conv at f_w2_w_0_3 => rhs; simp [go_sem, *]
      have c_w2_w_0_4 := c_w2_w_0 4
      conv at c_w2_w_0_4 => rhs; simp [go_sem, *]
      have f_w2_w_0_4 := f_w2_w_0 4
      conv at f_w2_w_0_4 => rhs; simp [go_sem, *]
      have c_w2_w_0_5 := c_w2_w_0 5
      conv at c_w2_w_0_5 => rhs; simp [go_sem, *]
      have f_w2_w_0_5 := f_w2_w_0 5
      conv at f_w2_w_0_5 => rhs; simp [go_sem, *]
      have hB_w2 : Below w.heap.size w w2 := Below.trans (by (repeat (first | (with_reducible exact Below.refl _ _) | (with_reducible assumption) | (with_reducible refine Below.drew ?_) | (focus ((with_reducible refine Below.setCell ?_ ?_ _); rotate_left; (first | omega | (simp <;> omega)))) | (focus ((with_reducible refine Below.alloc ?_ ?_ _); rotate_left; (first | omega | (simp <;> omega)))) | exact Below.refl _ _ | assumption | refine Below.drew ?_ | refine Below.alloc ?_ (by first | omega | (simp <;> omega)) _ | refine Below.setCell ?_ (by first | omega | (simp <;> omega)) _))) (hb_w2.mono (by first | omega | (simp <;> omega)))
      clear hb_w2 c_w2_w_0 f_w2_w_0
      try clear c_w4_w3_0_0
      try clear f_w4_w3_0_0
      try clear c_w4_w3_0_1
      try clear f_w4_w3_0_1
      try clear c_w4_w3_0_2
      try clear f_w4_w3_0_2
      try clear c_w4_w3_0_3
      try clear f_w4_w3_0_3
      try clear c_w4_w3_0_4
      try clear f_w4_w3_0_4
      try clear c_w4_w3_0_5
      try clear f_w4_w3_0_5
      try clear far_w4_w3_0
      try clear hB_w4
      have far_w2_w_0 := far (show w.heap.size < w2.heap.size by omega)
      go_wp2_with fail
      refine Calls.mono (C2.out (by simp) _ (by (repeat (first | (with_reducible exact Below.refl _ _) | (with_reducible assumption) | (with_reducible refine Below.drew ?_) | (focus ((with_reducible refine Below.setCell ?_ ?_ _); rotate_left; (first | omega | (simp <;> omega)))) | (focus ((with_reducible refine Below.alloc ?_ ?_ _); rotate_left; (first | omega | (simp <;> omega)))) | exact Below.refl _ _ | assumption | refine Below.drew ?_ | refine Below.alloc ?_ (by first | omega | (simp <;> omega)) _ | refine Below.setCell ?_ (by first | omega | (simp <;> omega)) _)))) ?_
      rintro e w8 ⟨rfl, hb_w8⟩
      have hz_w8 := hb_w8.size
      try simp at hz_w8
      obtain ⟨c_w8_w_0, f_w8_w_0⟩ := bk hb_w8 (w.heap.size) (by first | omega | (simp <;> omega))
      have c_w8_w_0_0 := c_w8_w_0 0
      conv at c_w8_w_0_0 => rhs; simp [go_sem, *]
      have f_w8_w_0_0 := f_w8_w_0 0
      conv at f_w8_w_0_0 => rhs; simp [go_sem, *]
      have c_w8_w_0_1 := c_w8_w_0 1
      conv at c_w8_w_0_1 => rhs; simp [go_sem, *]
      have f_w8_w_0_1 := f_w8_w_0 1
      conv at f_w8_w_0_1 => rhs; simp [go_sem, *]
      have c_w8_w_0_2 := c_w8_w_0 2
      conv at c_w8_w_0_2 => rhs; simp [go_sem, *]
      have f_w8_w_0_2 := f_w8_w_0 2
      conv at f_w8_w_0_2 => rhs; simp [go_sem, *]
      have c_w8_w_0_3 := c_w8_w_0 3
      conv at c_w8_w_0_3 => rhs; simp [go_sem, *]
      have f_w8_w_0_3 := f_w8_w_0 3
      conv at f_w8_w_0_3 => rhs; simp [go_sem, *]
      have c_w8_w_0_4 := c_w8_w_0 4
      conv at c_w8_w_0_4 => rhs; simp [go_sem, *]
      have f_w8_w_0_4 := f_w8_w_0 4
      conv at f_w8_w_0_4 => rhs; simp [go_sem, *]
      have c_w8_w_0_5 := c_w8_w_0 5
      conv at c_w8_w_0_5 => rhs; simp [go_sem, *]
      have f_w8_w_0_5 := f_w8_w_0 5
      conv at f_w8_w_0_5 => rhs; simp [go_sem, *]
      have hB_w8 : Below w.heap.size w w8 := Below.trans (by (repeat (first | (with_reducible exact Below.refl _ _) | (with_reducible assumption) | (with_reducible refine Below.drew ?_) | (focus ((with_reducible refine Below.setCell ?_ ?_ _); rotate_left; (first | omega | (simp <;> omega)))) | (focus ((with_reducible refine Below.alloc ?_ ?_ _); rotate_left; (first | omega | (simp <;> omega)))) | exact Below.refl _ _ | assumption | refine Below.drew ?_ | refine Below.alloc ?_ (by first | omega | (simp <;> omega)) _ | refine Below.setCell ?_ (by first | omega | (simp <;> omega)) _))) (hb_w8.mono (by first | omega | (simp <;> omega)))
      clear hb_w8 c_w8_w_0 f_w8_w_0
      try clear c_w2_w_0_0
      try clear f_w2_w_0_0
      try clear c_w2_w_0_1
      try clear f_w2_w_0_1
      try clear c_w2_w_0_2
      try clear f_w2_w_0_2
      try clear c_w2_w_0_3
      try clear f_w2_w_0_3
      try clear c_w2_w_0_4
      try clear f_w2_w_0_4
      try clear c_w2_w_0_5
      try clear f_w2_w_0_5
      try clear far_w2_w_0
      try clear hB_w2
      have far_w8_w_0 := far (show w.heap.size < w8.heap.size by omega)
      go_wp2_with fail
      refine Calls.mono (C3.out _ (by (repeat (first | (with_reducible exact Below.refl _ _) | (with_reducible assumption) | (with_reducible refine Below.drew ?_) | (focus ((with_reducible refine Below.setCell ?_ ?_ _); rotate_left; (first | omega | (simp <;> omega)))) | (focus ((with_reducible refine Below.alloc ?_ ?_ _); rotate_left; (first | omega | (simp <;> omega)))) | exact Below.refl _ _ | assumption | refine Below.drew ?_ | refine Below.alloc ?_ (by first | omega | (simp <;> omega)) _ | refine Below.setCell ?_ (by first | omega | (simp <;> omega)) _)))) ?_
      rintro e w3 ⟨rfl, hb_w3⟩
      have hz_w3 := hb_w3.size
      try simp at hz_w3
      have hB_w3 : Below w.heap.size w w3 := Below.trans (by (repeat (first | (with_reducible exact Below.refl _ _) | (with_reducible assumption) | (with_reducible refine Below.drew ?_) | (focus ((with_reducible refine Below.setCell ?_ ?_ _); rotate_left; (first | omega | (simp <;> omega)))) | (focus ((with_reducible refine Below.alloc ?_ ?_ _); rotate_left; (first | omega | (simp <;> omega)))) | exact Below.refl _ _ | assumption | refine Below.drew ?_ | refine Below.alloc ?_ (by first | omega | (simp <;> omega)) _ | refine Below.setCell ?_ (by first | omega | (simp <;> omega)) _))) (hb_w3.mono (by first | omega | (simp <;> omega)))
      clear hb_w3
      try clear c_w8_w_0_0
      try clear f_w8_w_0_0
      try clear c_w8_w_0_1
      try clear f_w8_w_0_1
      try clear c_w8_w_0_2
      try clear f_w8_w_0_2
      try clear c_w8_w_0_3
      try clear f_w8_w_0_3
      try clear c_w8_w_0_4
      try clear f_w8_w_0_4
      try clear c_w8_w_0_5
      try clear f_w8_w_0_5
      try clear far_w8_w_0
      try clear hB_w8
      go_wp2_with fail
      refine Calls.mono (clean_alive _) ?_
      rintro e w4 ⟨rfl, hb_w4⟩
      have hz_w4 := hb_w4.size
      try simp at hz_w4
      obtain ⟨c_w4_w3_0, f_w4_w3_0⟩ := bk hb_w4 (w3.heap.size) (by first | omega | (simp <;> omega))
      have c_w4_w3_0_0 := c_w4_w3_0 0
      conv at c_w4_w3_0_0 => rhs; simp [go_sem, *]
      have f_w4_w3_0_0 := f_w4_w3_0 0
      conv at f_w4_w3_0_0 => rhs; simp [go_sem, *]
      have c_w4_w3_0_1 := c_w4_w3_0 1
      conv at c_w4_w3_0_1 => rhs; simp [go_sem, *]
      have f_w4_w3_0_1 := f_w4_w3_0 1
      conv at f_w4_w3_0_1 => rhs; simp [go_sem, *]
      have c_w4_w3_0_2 := c_w4_w3_0 2
      conv at c_w4_w3_0_2 => rhs; simp [go_sem, *]
      have f_w4_w3_0_2 := f_w4_w3_0 2
      conv at f_w4_w3_0_2 => rhs; simp [go_sem, *]
      have c_w4_w3_0_3 := c_w4_w3_0 3
      conv at c_w4_w3_0_3 => rhs; simp [go_sem, *]
      have f_w4_w3_0_3 := f_w4_w3_0 3
      conv at f_w4_w3_0_3 => rhs; simp [go_sem, *]
      have c_w4_w3_0_4 := c_w4_w3_0 4
      conv at c_w4_w3_0_4 => rhs; simp [go_sem, *]
      have f_w4_w3_0_4 := f_w4_w3_0 4
      conv at f_w4_w3_0_4 => rhs; simp [go_sem, *]
      have c_w4_w3_0_5 := c_w4_w3_0 5
      conv at c_w4_w3_0_5 => rhs; simp [go_sem, *]
      have f_w4_w3_0_5 := f_w4_w3_0 5
      conv at f_w4_w3_0_5 => rhs; simp [go_sem, *]
      have hB_w4 : Below w.heap.size w w4 := Below.trans (by (repeat (first | (with_reducible exact Below.refl _ _) | (with_reducible assumption) | (with_reducible refine Below.drew ?_) | (focus ((with_reducible refine Below.setCell ?_ ?_ _); rotate_left; (first | omega | (simp <;> omega)))) | (focus ((with_reducible refine Below.alloc ?_ ?_ _); rotate_left; (first | omega | (simp <;> omega)))) | exact Below.refl _ _ | assumption | refine Below.drew ?_ | refine Below.alloc ?_ (by first | omega | (simp <;> omega)) _ | refine Below.setCell ?_ (by first | omega | (simp <;> omega)) _))) (hb_w4.mono (by first | omega | (simp <;> omega)))
      clear hb_w4 c_w4_w3_0 f_w4_w3_0
      try clear hB_w3
      have far_w4_w3_0 := far (show w3.heap.size < w4.heap.size by omega)
      go_wp2
      go_ret
      refine ⟨ret_bool (by simp), ?_⟩
      (repeat (first | (with_reducible exact Below.refl _ _) | (with_reducible assumption) | (with_reducible refine Below.drew ?_) | (focus ((with_reducible refine Below.setCell ?_ ?_ _); rotate_left; (first | omega | (simp <;> omega)))) | (focus ((with_reducible refine Below.alloc ?_ ?_ _); rotate_left; (first | omega | (simp <;> omega)))) | exact Below.refl _ _ | assumption | refine Below.drew ?_ | refine Below.alloc ?_ (by first | omega | (simp <;> omega)) _ | refine Below.setCell ?_ (by first | omega | (simp <;> omega)) _))

theorem uriBack_any (a0 : Bool) (a1 : ByteArray) (a2 : Int) (a3 : ByteArray) (a4 : Bool) (a5 : ByteArray) (b : ByteArray) (W : World)
    (h1 : a1.size ≤ maxLen) (h2 : (Lit.int .i64 a2).wf) (h3 : a3.size ≤ maxLen) (h5 : a5.size ≤ maxLen) (k1 : b.size ≤ maxLen) (hL : Laid W) :
    Calls Tryd.prog 4 #[.agg #[.bool a0, .string a1, .int .i64 a2, .string a3, .bool a4, .string a5], .string b] W fun e w' => e = .returned (.bool true) ∧ Below W.heap.size W w' := by
  obtain ⟨l1, rfl⟩ := S_of a1
  obtain ⟨l3, rfl⟩ := S_of a3
  obtain ⟨l5, rfl⟩ := S_of a5
  obtain ⟨m1, rfl⟩ := S_of b
  rw [S_size] at h1 h3 h5 k1
  exact uriBack ⟨a0, l1, a2, l3, a4, l5⟩ ⟨h1, h3, h5⟩ m1 k1 W hL
end Go.Proofs.YtpglgembgpoeiaaDoor
