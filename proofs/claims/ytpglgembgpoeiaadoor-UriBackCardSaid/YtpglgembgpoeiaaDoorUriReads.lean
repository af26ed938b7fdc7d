/- The law UriReads: its walk. -/
import Derived.Test.YtpglgembgpoeiaaDoorUriPrint
import Derived.Test.YtpglgembgpoeiaaDoorRefParse
import Derived.Test.YtpglgembgpoeiaaDoorInter2
namespace Go.Proofs.YtpglgembgpoeiaaDoor
open Go.RowKit Go.Shelf
set_option linter.unusedVariables false

theorem later_below {B : Nat} {w W : World} {p : Later B W} (h : Below w.heap.size w W) (hB : w.heap.size ≤ B) : Below w.heap.size w p.w := h.trans (p.b.mono hB)

def UU.cut (u : UU) : UU := ⟨u.a, u.h.take 120, u.n, u.p.take 520, u.q, u.y.take 520⟩
theorem UU.cut_small (u : UU) : u.cut.small := ⟨List.length_take_le _ _, List.length_take_le _ _, List.length_take_le _ _⟩

set_option maxHeartbeats 6400000 in
set_option maxRecDepth 100000 in
theorem uriReads (u : UU) (hu : u.h.length ≤ 9223372036854775807 ∧ u.p.length ≤ 9223372036854775807 ∧ u.y.length ≤ 9223372036854775807) (l0 : List UInt8) (hl0 : l0.length ≤ 9223372036854775807) (w : World) (hL : Laid w) :
    Calls Tryd.prog 3 #[u.v, .string (S l0)] w fun e w' => e = .returned (.bool true) ∧ Below w.heap.size w w' := by
  have F1 := Lib.hid (fun W => show Calls Tryd.prog 6 #[u.v] W fun e w' => e = .returned u.cut.v ∧ Below W.heap.size W w' from fewC u hu W)
  obtain ⟨k, hk, hk1, hk2⟩ : ∃ k : Nat, min (l0.length : Int) 520 = k ∧ k ≤ l0.length ∧ k ≤ 520 := ⟨min l0.length 520, by omega, by omega, by omega⟩
  obtain ⟨l, hl⟩ : ∃ l, l0.take k = l := ⟨_, rfl⟩
  have hll : l.length ≤ 520 := by rw [← hl, List.length_take]; omega
  have C1 := Lib.hid (fun W (hbl : Below w.heap.size w W) => uriPrint u.cut u.cut_small.mid W (hL.on hbl))
  have C2 := Lib.hid (fun W (hbl : Below w.heap.size w W) => uriParse l (by omega) W (hL.on hbl))
  have C3 := Lib.hid (fun W (hbl : Below w.heap.size w W) => refParse l (by omega) W (hL.on hbl))
  have C4 := Lib.hid (fun W (hbl : Below w.heap.size w W) => rightC u.cut u.cut_small.mid (W := W) hL hbl)
  have C5 := Lib.hid (fun W (hbl : Below w.heap.size w W) => refRightC u.cut u.cut_small.mid (W := W) hL hbl)
  have C6 := Lib.hid (fun (hok : u.cut.ok = true) W (hbl : Below w.heap.size w W) => refWriteI u.cut.a u.cut.h u.cut.n u.cut.p u.cut.q u.cut.y u.cut_small.mid.1 ((ok_iff _).1 hok).n0 ((ok_iff _).1 hok).n1 u.cut_small.mid.2.1 u.cut_small.mid.2.2 W (hL.on hbl))
  obtain ⟨⟨⟨pa, ph, pn, pp, pq, py⟩, pe⟩, hp⟩ : ∃ x, parseL l = x := ⟨_, rfl⟩
  rw [hp] at C2 C3
  unfold printL at C1
  obtain ⟨⟨xa, xh, xn, xp, xq, xy⟩, hx⟩ : ∃ x, u.cut = x := ⟨_, rfl⟩
  simp only [hx] at F1 C1 C4 C5 C6
  obtain ⟨ok, hok⟩ : ∃ b, UU.ok ⟨xa, xh, xn, xp, xq, xy⟩ = b := ⟨_, rfl⟩
  simp only [hok] at C1 C4 C5 C6
  obtain ⟨wl, hwl⟩ : ∃ b, writeL xa xh xn.toNat xp xq xy = b := ⟨_, rfl⟩
  simp only [hwl] at C1 C6
  clear hp hx hok hwl hL
  obtain ⟨ua, uh, un, up, uq, uy⟩ := u
  clear hu
  have hsl : ((l0.take k).drop 0) = l := hl
  simp only [UU.v] at F1 C1 C2 C3 C4 C5 ⊢
  go_enter Tryd.func3, Tryd.ntmps3
  go_wp2_with fail
  refine wp_region_callsV (w.heap.size + 1) [fun W => ((((((W.setCell ⟨w.heap.size, 0, none⟩ (.bool xa)).setCell ⟨w.heap.size, 1, none⟩ (.string (S xh))).setCell ⟨w.heap.size, 2, none⟩ (.int .i64 xn)).setCell ⟨w.heap.size, 3, none⟩ (.string (S xp))).setCell ⟨w.heap.size, 4, none⟩ (.bool xq)).setCell ⟨w.heap.size, 5, none⟩ (.string (S xy))), fun W => W] [1] (fun r => [7, 8].getD r 0) (fun i => [0, 0, 1, 1, 1, 1, 1, 0, 1].getD i 2) [(11, uv ua uh un up uq uy), (12, uv xa xh xn xp xq xy), (13, .string (S l0)), (14, .string (S l0)), (15, .int .i64 l0.length), (16, .int .i64 k), (17, .string (S l)), (1, .string (S l))] [(1, .string (S l0))] (by kernel_rfl) (by kernel_rfl) rfl ?_ ?_ ?_ ?_ ?_
  · simp only [puts, List.foldl_cons, List.foldl_nil, Act.put, List.setIfInBounds_toArray, List.set_cons_succ, List.set_cons_zero]; repeat (first | exact trivial | refine ⟨by first | exact Or.inr rfl | exact Or.inl (by kernel_rfl), ?_⟩)
  · simp only [puts, List.foldl_cons, List.foldl_nil, Act.put, List.setIfInBounds_toArray, List.set_cons_succ, List.set_cons_zero]; repeat (first | exact trivial | refine ⟨by first | exact Or.inr rfl | exact Or.inl (by kernel_rfl), ?_⟩)
  · simp only [puts, List.foldl_cons, List.foldl_nil, Act.put, List.setIfInBounds_toArray, List.set_cons_succ, List.set_cons_zero]; repeat (first | exact trivial | refine ⟨by first | exact Or.inr rfl | exact Or.inl (by kernel_rfl), ?_⟩)
  · simp only [puts, List.foldl_cons, List.foldl_nil, Act.put, List.setIfInBounds_toArray, List.set_cons_succ, List.set_cons_zero]
    refine And.intro ?_ ?_
    · exact opOK_headC 0 (by rfl) (upto0 (by exact oneC_val rfl rfl (fun x hx => by have cc0 := fun o => (show Below _ _ x from hx).cell (p := ⟨w.heap.size, o, none⟩) (by first | omega | (simp <;> omega)); have ff0 := fun o => (show Below _ _ x from hx).frozen (p := ⟨w.heap.size, o, none⟩) (by first | omega | (simp <;> omega)); simp [go_sem, *])))
    refine And.intro ?_ ?_
    · exact opOK_headC 0 (by rfl) (upto0 (by exact oneC_call rfl rfl (fun x hx => by have cc0 := fun o => (show Below _ _ x from hx).cell (p := ⟨w.heap.size, o, none⟩) (by first | omega | (simp <;> omega)); have ff0 := fun o => (show Below _ _ x from hx).frozen (p := ⟨w.heap.size, o, none⟩) (by first | omega | (simp <;> omega)); simp [go_sem, *]) (fun x hx => call_cls hx (by have := (show Below _ _ x from hx).size; simp at this; omega) (F1.out _))))
    refine And.intro ?_ ?_
    · exact opOK_headC 1 (by rfl) (upto1 (by exact oneC_val rfl rfl (fun x hx => by have cc0 := fun o => (show Below _ _ x from hx).cell (p := ⟨w.heap.size, o, none⟩) (by first | omega | (simp <;> omega)); have ff0 := fun o => (show Below _ _ x from hx).frozen (p := ⟨w.heap.size, o, none⟩) (by first | omega | (simp <;> omega)); simp [go_sem, *])) (by exact oneC_val rfl rfl (fun x hx => by have cc0 := fun o => (show Below _ _ x from hx).cell (p := ⟨w.heap.size, o, none⟩) (by first | omega | (simp <;> omega)); have ff0 := fun o => (show Below _ _ x from hx).frozen (p := ⟨w.heap.size, o, none⟩) (by first | omega | (simp <;> omega)); simp [go_sem, *])))
    refine And.intro ?_ ?_
    · exact opOK_headC 1 (by rfl) (upto1 (by exact oneC_val rfl rfl (fun x hx => by have cc0 := fun o => (show Below _ _ x from hx).cell (p := ⟨w.heap.size, o, none⟩) (by first | omega | (simp <;> omega)); have ff0 := fun o => (show Below _ _ x from hx).frozen (p := ⟨w.heap.size, o, none⟩) (by first | omega | (simp <;> omega)); simp [go_sem, *])) (by exact oneC_val rfl rfl (fun x hx => by have cc0 := fun o => (show Below _ _ x from hx).cell (p := ⟨w.heap.size, o, none⟩) (by first | omega | (simp <;> omega)); have ff0 := fun o => (show Below _ _ x from hx).frozen (p := ⟨w.heap.size, o, none⟩) (by first | omega | (simp <;> omega)); simp [go_sem, *])))
    refine And.intro ?_ ?_
    · exact opOK_headC 1 (by rfl) (upto1 (by exact oneC_val rfl rfl (fun x hx => by have cc0 := fun o => (show Below _ _ x from hx).cell (p := ⟨w.heap.size, o, none⟩) (by first | omega | (simp <;> omega)); have ff0 := fun o => (show Below _ _ x from hx).frozen (p := ⟨w.heap.size, o, none⟩) (by first | omega | (simp <;> omega)); simp [go_sem, *])) (by exact oneC_val rfl rfl (fun x hx => by have cc0 := fun o => (show Below _ _ x from hx).cell (p := ⟨w.heap.size, o, none⟩) (by first | omega | (simp <;> omega)); have ff0 := fun o => (show Below _ _ x from hx).frozen (p := ⟨w.heap.size, o, none⟩) (by first | omega | (simp <;> omega)); simp [go_sem, *])))
    refine And.intro ?_ ?_
    · exact opOK_headC 1 (by rfl) (upto1 (by exact oneC_val rfl rfl (fun x hx => by have cc0 := fun o => (show Below _ _ x from hx).cell (p := ⟨w.heap.size, o, none⟩) (by first | omega | (simp <;> omega)); have ff0 := fun o => (show Below _ _ x from hx).frozen (p := ⟨w.heap.size, o, none⟩) (by first | omega | (simp <;> omega)); simp [go_sem, *])) (by exact oneC_val rfl rfl (fun x hx => by have cc0 := fun o => (show Below _ _ x from hx).cell (p := ⟨w.heap.size, o, none⟩) (by first | omega | (simp <;> omega)); have ff0 := fun o => (show Below _ _ x from hx).frozen (p := ⟨w.heap.size, o, none⟩) (by first | omega | (simp <;> omega)); simp [go_sem, *])))
    refine And.intro ?_ ?_
    · exact opOK_headC 1 (by rfl) (upto1 (by exact oneC_val rfl rfl (fun x hx => by have cc0 := fun o => (show Below _ _ x from hx).cell (p := ⟨w.heap.size, o, none⟩) (by first | omega | (simp <;> omega)); have ff0 := fun o => (show Below _ _ x from hx).frozen (p := ⟨w.heap.size, o, none⟩) (by first | omega | (simp <;> omega)); simp [go_sem, *])) (by exact oneC_val rfl rfl (fun x hx => by have cc0 := fun o => (show Below _ _ x from hx).cell (p := ⟨w.heap.size, o, none⟩) (by first | omega | (simp <;> omega)); have ff0 := fun o => (show Below _ _ x from hx).frozen (p := ⟨w.heap.size, o, none⟩) (by first | omega | (simp <;> omega)); simp [go_sem, *])))
    refine And.intro ?_ ?_
    · exact opOK_atC 0 (by rfl) (oneC_store (g := fun W => ((((((W.setCell ⟨w.heap.size, 0, none⟩ (.bool xa)).setCell ⟨w.heap.size, 1, none⟩ (.string (S xh))).setCell ⟨w.heap.size, 2, none⟩ (.int .i64 xn)).setCell ⟨w.heap.size, 3, none⟩ (.string (S xp))).setCell ⟨w.heap.size, 4, none⟩ (.bool xq)).setCell ⟨w.heap.size, 5, none⟩ (.string (S xy)))) rfl (fun x hx => ⟨by have cc0 := fun o => (show Below _ _ x from hx).cell (p := ⟨w.heap.size, o, none⟩) (by first | omega | (simp <;> omega)); have ff0 := fun o => (show Below _ _ x from hx).frozen (p := ⟨w.heap.size, o, none⟩) (by first | omega | (simp <;> omega)); simp [go_sem, *], by simp only [Cls, List.take_succ_cons, List.take_zero, List.foldl_cons, List.foldl_nil] at hx ⊢; repeat (first | (with_reducible exact hx) | (with_reducible refine below_both ?_ _ _))⟩))
    refine And.intro ?_ ?_
    · exact opOK_atC 1 (by rfl) (oneC_assign rfl rfl (fun x hx => ⟨by have cc0 := fun o => (show Below _ _ x from hx).cell (p := ⟨w.heap.size, o, none⟩) (by first | omega | (simp <;> omega)); have ff0 := fun o => (show Below _ _ x from hx).frozen (p := ⟨w.heap.size, o, none⟩) (by first | omega | (simp <;> omega)); simp [go_sem, *], by simp only [Cls, List.take_succ_cons, List.take_zero, List.foldl_cons, List.foldl_nil] at hx ⊢; (with_reducible exact hx)⟩))
    exact trivial
  simp only [puts, List.foldl_cons, List.foldl_nil, Act.put, List.setIfInBounds_toArray, List.set_cons_succ, List.set_cons_zero]
  intro w1 hb_w1
  have hz_w1 := hb_w1.size
  try simp at hz_w1
  have c_w1_w_0 := fun o => hb_w1.cell (p := ⟨w.heap.size, o, none⟩) (by first | omega | (simp <;> omega))
  have f_w1_w_0 := fun o => hb_w1.frozen (p := ⟨w.heap.size, o, none⟩) (by first | omega | (simp <;> omega))
  have c_w1_w_0_0 := c_w1_w_0 0
  conv at c_w1_w_0_0 => rhs; simp [go_sem, *]
  have f_w1_w_0_0 := f_w1_w_0 0
  conv at f_w1_w_0_0 => rhs; simp [go_sem, *]
  have c_w1_w_0_1 := c_w1_w_0 1
  conv at c_w1_w_0_1 => rhs; simp [go_sem, *]
  have f_w1_w_0_1 := f_w1_w_0 1
  conv at f_w1_w_0_1 => rhs; simp [go_sem, *]
  have c_w1_w_0_2 := c_w1_w_0 2
  conv at c_w1_w_0_2 => rhs; simp [go_sem, *]
  have f_w1_w_0_2 := f_w1_w_0 2
  conv at f_w1_w_0_2 => rhs; simp [go_sem, *]
  have c_w1_w_0_3 := c_w1_w_0 3
  conv at c_w1_w_0_3 => rhs; simp [go_sem, *]
  have f_w1_w_0_3 := f_w1_w_0 3
  conv at f_w1_w_0_3 => rhs; simp [go_sem, *]
  have c_w1_w_0_4 := c_w1_w_0 4
  conv at c_w1_w_0_4 => rhs; simp [go_sem, *]
  have f_w1_w_0_4 := f_w1_w_0 4
  conv at f_w1_w_0_4 => rhs; simp [go_sem, *]
  have c_w1_w_0_5 := c_w1_w_0 5
  conv at c_w1_w_0_5 => rhs; simp [go_sem, *]
  have f_w1_w_0_5 := f_w1_w_0 5
  conv at f_w1_w_0_5 => rhs; simp [go_sem, *]
  have hB_w1 : Below w.heap.size w w1 := Below.trans (by (repeat (first | (with_reducible exact Below.refl _ _) | (with_reducible assumption) | (with_reducible refine Below.drew ?_) | (focus ((with_reducible refine Below.setCell ?_ ?_ _); rotate_left; (first | omega | (simp <;> omega)))) | (focus ((with_reducible refine Below.alloc ?_ ?_ _); rotate_left; (first | omega | (simp <;> omega)))) | exact Below.refl _ _ | assumption | refine Below.drew ?_ | refine Below.alloc ?_ (by first | omega | (simp <;> omega)) _ | refine Below.setCell ?_ (by first | omega | (simp <;> omega)) _))) (hb_w1.mono (by first | omega | (simp <;> omega)))
  clear hb_w1 c_w1_w_0 f_w1_w_0
  have far_w1_w_0 := far (show w.heap.size < w1.heap.size by omega)
  cases ok with
  | false =>
    simp only [Bool.false_eq_true, if_false] at C1
    go_wp2_with fail
    refine Calls.mono (C1.out _ (by (repeat (first | (with_reducible exact Below.refl _ _) | (with_reducible assumption) | (with_reducible refine Below.drew ?_) | (focus ((with_reducible refine Below.setCell ?_ ?_ _); rotate_left; (first | omega | (simp <;> omega)))) | (focus ((with_reducible refine Below.alloc ?_ ?_ _); rotate_left; (first | omega | (simp <;> omega)))) | exact Below.refl _ _ | assumption | refine Below.drew ?_ | refine Below.alloc ?_ (by first | omega | (simp <;> omega)) _ | refine Below.setCell ?_ (by first | omega | (simp <;> omega)) _)))) ?_
    rintro e w2 ⟨rfl, hb_w2⟩
    have hz_w2 := hb_w2.size
    try simp at hz_w2
    obtain ⟨c_w2_w_0, f_w2_w_0⟩ := bk hb_w2 (w.heap.size) (by first | omega | (simp <;> omega))
    have c_w2_w_0_0 := c_w2_w_0 0
    conv at c_w2_w_0_0 => rhs; simp [go_sem, *]
    have f_w2_w_0_0 := f_w2_w_0 0
    conv at f_w2_w_0_0 => rhs; simp [go_sem, *]
    have c_w2_w_0_1 := c_w2_w_0 1
    conv at c_w2_w_0_1 => rhs; simp [go_sem, *]
    have f_w2_w_0_1 := f_w2_w_0 1
    conv at f_w2_w_0_1 => rhs; simp [go_sem, *]
    have c_w2_w_0_2 := c_w2_w_0 2
    conv at c_w2_w_0_2 => rhs; simp [go_sem, *]
    have f_w2_w_0_2 := f_w2_w_0 2
    conv at f_w2_w_0_2 => rhs; simp [go_sem, *]
    have c_w2_w_0_3 := c_w2_w_0 3
    conv at c_w2_w_0_3 => rhs; simp [go_sem, *]
    have f_w2_w_0_3 := f_w2_w_0 3
    conv at f_w2_w_0_3 => rhs; simp [go_sem, *]
    have c_w2_w_0_4 := c_w2_w_0 4
    conv at c_w2_w_0_4 => rhs; simp [go_sem, *]
    have f_w2_w_0_4 := f_w2_w_0 4
    conv at f_w2_w_0_4 => rhs; simp [go_sem, *]
    have c_w2_w_0_5 := c_w2_w_0 5
    conv at c_w2_w_0_5 => rhs; simp [go_sem, *]
    have f_w2_w_0_5 := f_w2_w_0 5
    conv at f_w2_w_0_5 => rhs; simp [go_sem, *]
    have hB_w2 : Below w.heap.size w w2 := Below.trans (by (repeat (first | (with_reducible exact Below.refl _ _) | (with_reducible assumption) | (with_reducible refine Below.drew ?_) | (focus ((with_reducible refine Below.setCell ?_ ?_ _); rotate_left; (first | omega | (simp <;> omega)))) | (focus ((with_reducible refine Below.alloc ?_ ?_ _); rotate_left; (first | omega | (simp <;> omega)))) | exact Below.refl _ _ | assumption | refine Below.drew ?_ | refine Below.alloc ?_ (by first | omega | (simp <;> omega)) _ | refine Below.setCell ?_ (by first | omega | (simp <;> omega)) _))) (hb_w2.mono (by first | omega | (simp <;> omega)))
    clear hb_w2 c_w2_w_0 f_w2_w_0
    try clear c_w1_w_0_0
    try clear f_w1_w_0_0
    try clear c_w1_w_0_1
    try clear f_w1_w_0_1
    try clear c_w1_w_0_2
    try clear f_w1_w_0_2
    try clear c_w1_w_0_3
    try clear f_w1_w_0_3
    try clear c_w1_w_0_4
    try clear f_w1_w_0_4
    try clear c_w1_w_0_5
    try clear f_w1_w_0_5
    try clear far_w1_w_0
    try clear hB_w1
    have far_w2_w_0 := far (show w.heap.size < w2.heap.size by omega)
    go_wp2_with fail
    refine Calls.mono (C2.out _ (by (repeat (first | (with_reducible exact Below.refl _ _) | (with_reducible assumption) | (with_reducible refine Below.drew ?_) | (focus ((with_reducible refine Below.setCell ?_ ?_ _); rotate_left; (first | omega | (simp <;> omega)))) | (focus ((with_reducible refine Below.alloc ?_ ?_ _); rotate_left; (first | omega | (simp <;> omega)))) | exact Below.refl _ _ | assumption | refine Below.drew ?_ | refine Below.alloc ?_ (by first | omega | (simp <;> omega)) _ | refine Below.setCell ?_ (by first | omega | (simp <;> omega)) _)))) ?_
    rintro e w3 ⟨rfl, hb_w3⟩
    have hz_w3 := hb_w3.size
    try simp at hz_w3
    obtain ⟨c_w3_w_0, f_w3_w_0⟩ := bk hb_w3 (w.heap.size) (by first | omega | (simp <;> omega))
    have c_w3_w_0_0 := c_w3_w_0 0
    conv at c_w3_w_0_0 => rhs; simp [go_sem, *]
    have f_w3_w_0_0 := f_w3_w_0 0
    conv at f_w3_w_0_0 => rhs; simp [go_sem, *]
    have c_w3_w_0_1 := c_w3_w_0 1
    conv at c_w3_w_0_1 => rhs; simp [go_sem, *]
    have f_w3_w_0_1 := f_w3_w_0 1
    conv at f_w3_w_0_1 => rhs; simp [go_sem, *]
    have c_w3_w_0_2 := c_w3_w_0 2
    conv at c_w3_w_0_2 => rhs; simp [go_sem, *]
    have f_w3_w_0_2 := f_w3_w_0 2
    conv at f_w3_w_0_2 => rhs; simp [go_sem, *]
    have c_w3_w_0_3 := c_w3_w_0 3
    conv at c_w3_w_0_3 => rhs; simp [go_sem, *]
    have f_w3_w_0_3 := f_w3_w_0 3
    conv at f_w3_w_0_3 => rhs; simp [go_sem, *]
    have c_w3_w_0_4 := c_w3_w_0 4
    conv at c_w3_w_0_4 => rhs; simp [go_sem, *]
    have f_w3_w_0_4 := f_w3_w_0 4
    conv at f_w3_w_0_4 => rhs; simp [go_sem, *]
    have c_w3_w_0_5 := c_w3_w_0 5
    conv at c_w3_w_0_5 => rhs; simp [go_sem, *]
    have f_w3_w_0_5 := f_w3_w_0 5
    conv at f_w3_w_0_5 => rhs; simp [go_sem, *]
    have hB_w3 : Below w.heap.size w w3 := Below.trans (by (repeat (first | (with_reducible exact Below.refl _ _) | (with_reducible assumption) | (with_reducible refine Below.drew ?_) | (focus ((with_reducible refine Below.setCell ?_ ?_ _); rotate_left; (first | omega | (simp <;> omega)))) | (focus ((with_reducible refine Below.alloc ?_ ?_ _); rotate_left; (first | omega | (simp <;> omega)))) | exact Below.refl _ _ | assumption | refine Below.drew ?_ | refine Below.alloc ?_ (by first | omega | (simp <;> omega)) _ | refine Below.setCell ?_ (by first | omega | (simp <;> omega)) _))) (hb_w3.mono (by first | omega | (simp <;> omega)))
    clear hb_w3 c_w3_w_0 f_w3_w_0
    try clear c_w2_w_0_0
    try clear f_w2_w_0_0
    try clear c_w2_w_0_1
    try clear f_w2_w_0_1
    try clear c_w2_w_0_2
    try clear f_w2_w_0_2
    try clear c_w2_w_0_3
    try clear f_w2_w_0_3
    try clear c_w2_w_0_4
    try clear f_w2_w_0_4
    try clear c_w2_w_0_5
    try clear f_w2_w_0_5
    try clear far_w2_w_0
    try clear hB_w2
    have far_w3_w_0 := far (show w.heap.size < w3.heap.size by omega)
    go_wp2_with fail
    refine Calls.mono (C3.out _ (by (repeat (first | (with_reducible exact Below.refl _ _) | (with_reducible assumption) | (with_reducible refine Below.drew ?_) | (focus ((with_reducible refine Below.setCell ?_ ?_ _); rotate_left; (first | omega | (simp <;> omega)))) | (focus ((with_reducible refine Below.alloc ?_ ?_ _); rotate_left; (first | omega | (simp <;> omega)))) | exact Below.refl _ _ | assumption | refine Below.drew ?_ | refine Below.alloc ?_ (by first | omega | (simp <;> omega)) _ | refine Below.setCell ?_ (by first | omega | (simp <;> omega)) _)))) ?_
    rintro e w4 ⟨rfl, hb_w4⟩
    have hz_w4 := hb_w4.size
    try simp at hz_w4
    obtain ⟨c_w4_w_0, f_w4_w_0⟩ := bk hb_w4 (w.heap.size) (by first | omega | (simp <;> omega))
    have c_w4_w_0_0 := c_w4_w_0 0
    conv at c_w4_w_0_0 => rhs; simp [go_sem, *]
    have f_w4_w_0_0 := f_w4_w_0 0
    conv at f_w4_w_0_0 => rhs; simp [go_sem, *]
    have c_w4_w_0_1 := c_w4_w_0 1
    conv at c_w4_w_0_1 => rhs; simp [go_sem, *]
    have f_w4_w_0_1 := f_w4_w_0 1
    conv at f_w4_w_0_1 => rhs; simp [go_sem, *]
    have c_w4_w_0_2 := c_w4_w_0 2
    conv at c_w4_w_0_2 => rhs; simp [go_sem, *]
    have f_w4_w_0_2 := f_w4_w_0 2
    conv at f_w4_w_0_2 => rhs; simp [go_sem, *]
    have c_w4_w_0_3 := c_w4_w_0 3
    conv at c_w4_w_0_3 => rhs; simp [go_sem, *]
    have f_w4_w_0_3 := f_w4_w_0 3
    conv at f_w4_w_0_3 => rhs; simp [go_sem, *]
    have c_w4_w_0_4 := c_w4_w_0 4
    conv at c_w4_w_0_4 => rhs; simp [go_sem, *]
    have f_w4_w_0_4 := f_w4_w_0 4
    conv at f_w4_w_0_4 => rhs; simp [go_sem, *]
    have c_w4_w_0_5 := c_w4_w_0 5
    conv at c_w4_w_0_5 => rhs; simp [go_sem, *]
    have f_w4_w_0_5 := f_w4_w_0 5
    conv at f_w4_w_0_5 => rhs; simp [go_sem, *]
    obtain ⟨c_w4_w3_0, f_w4_w3_0⟩ := bk hb_w4 (w3.heap.size) (by first | omega | (simp <;> omega))
    have c_w4_w3_0_0 := c_w4_w3_0 0
    conv at c_w4_w3_0_0 => rhs; simp [go_sem, *]
    have f_w4_w3_0_0 := f_w4_w3_0 0
    conv at f_w4_w3_0_0 => rhs; simp [go_sem, *]
    have c_w4_w3_0_1 := c_w4_w3_0 1
    conv at c_w4_w3_0_1 => rhs; simp [go_sem, *]
    have f_w4_w3_0_1 := f_w4_w3_0 1
    conv at f_w4_w3_0_1 => rhs; simp [go_sem, *]
    have c_w4_w3_0_2 := c_w4_w3_0 2
    conv at c_w4_w3_0_2 => rhs; simp [go_sem, *]
    have f_w4_w3_0_2 := f_w4_w3_0 2
    conv at f_w4_w3_0_2 => rhs; simp [go_sem, *]
    have c_w4_w3_0_3 := c_w4_w3_0 3
    conv at c_w4_w3_0_3 => rhs; simp [go_sem, *]
    have f_w4_w3_0_3 := f_w4_w3_0 3
    conv at f_w4_w3_0_3 => rhs; simp [go_sem, *]
    have c_w4_w3_0_4 := c_w4_w3_0 4
    conv at c_w4_w3_0_4 => rhs; simp [go_sem, *]
    have f_w4_w3_0_4 := f_w4_w3_0 4
    conv at f_w4_w3_0_4 => rhs; simp [go_sem, *]
    have c_w4_w3_0_5 := c_w4_w3_0 5
    conv at c_w4_w3_0_5 => rhs; simp [go_sem, *]
    have f_w4_w3_0_5 := f_w4_w3_0 5
    conv at f_w4_w3_0_5 => rhs; simp [go_sem, *]
    have hB_w4 : Below w.heap.size w w4 := Below.trans (by (repeat (first | (with_reducible exact Below.refl _ _) | (with_reducible assumption) | (with_reducible refine Below.drew ?_) | (focus ((with_reducible refine Below.setCell ?_ ?_ _); rotate_left; (first | omega | (simp <;> omega)))) | (focus ((with_reducible refine Below.alloc ?_ ?_ _); rotate_left; (first | omega | (simp <;> omega)))) | exact Below.refl _ _ | assumption | refine Below.drew ?_ | refine Below.alloc ?_ (by first | omega | (simp <;> omega)) _ | refine Below.setCell ?_ (by first | omega | (simp <;> omega)) _))) (hb_w4.mono (by first | omega | (simp <;> omega)))
    clear hb_w4 c_w4_w_0 f_w4_w_0 c_w4_w3_0 f_w4_w3_0
    try clear c_w3_w_0_0
    try clear f_w3_w_0_0
    try clear c_w3_w_0_1
    try clear f_w3_w_0_1
    try clear c_w3_w_0_2
    try clear f_w3_w_0_2
    try clear c_w3_w_0_3
    try clear f_w3_w_0_3
    try clear c_w3_w_0_4
    try clear f_w3_w_0_4
    try clear c_w3_w_0_5
    try clear f_w3_w_0_5
    try clear far_w3_w_0
    try clear hB_w3
    have far_w4_w_0 := far (show w.heap.size < w4.heap.size by omega)
    have far_w4_w3_0 := far (show w3.heap.size < w4.heap.size by omega)
    go_wp2_with fail
    refine wp_region_later (w4.heap.size + 1) (by kernel_rfl) (by kernel_rfl) ?_
    have l_w5_w_0 := @Later.at (w4.heap.size + 1) (w.heap.size) (by omega)
    have l_w5_w3_0 := @Later.at (w4.heap.size + 1) (w3.heap.size) (by omega)
    have l_w5_w4_0 := @Later.at (w4.heap.size + 1) (w4.heap.size) (by omega)
    repeat (go_big_quiet_step (first | (go_at_call 10; refine later_of (by (first | omega | (simp <;> omega))) (C4.out _ (later_below (by (repeat (first | (with_reducible exact Below.refl _ _) | (with_reducible assumption) | (with_reducible refine Below.drew ?_) | (focus ((with_reducible refine Below.setCell ?_ ?_ _); rotate_left; (first | omega | (simp <;> omega)))) | (focus ((with_reducible refine Below.alloc ?_ ?_ _); rotate_left; (first | omega | (simp <;> omega)))) | exact Below.refl _ _ | assumption | refine Below.drew ?_ | refine Below.alloc ?_ (by first | omega | (simp <;> omega)) _ | refine Below.setCell ?_ (by first | omega | (simp <;> omega)) _))) (by omega)))) | (go_at_call 11; refine later_of (by (first | omega | (simp <;> omega))) (C5.out _ (later_below (by (repeat (first | (with_reducible exact Below.refl _ _) | (with_reducible assumption) | (with_reducible refine Below.drew ?_) | (focus ((with_reducible refine Below.setCell ?_ ?_ _); rotate_left; (first | omega | (simp <;> omega)))) | (focus ((with_reducible refine Below.alloc ?_ ?_ _); rotate_left; (first | omega | (simp <;> omega)))) | exact Below.refl _ _ | assumption | refine Below.drew ?_ | refine Below.alloc ?_ (by first | omega | (simp <;> omega)) _ | refine Below.setCell ?_ (by first | omega | (simp <;> omega)) _))) (by omega)))) | (go_at_call 12; refine later_of (by (first | omega | (simp <;> omega))) (clean_alive _))))
    refine wpQuiet_nil ?_
    rintro w5 ⟨⟨_, hb_w5⟩, rfl⟩
    clear l_w5_w_0 l_w5_w3_0 l_w5_w4_0
    try simp only [] at hb_w5 ⊢
    have hz_w5 := hb_w5.size
    try simp at hz_w5
    have c_w5_w_0 := fun o => hb_w5.cell (p := ⟨w.heap.size, o, none⟩) (by first | omega | (simp <;> omega))
    have f_w5_w_0 := fun o => hb_w5.frozen (p := ⟨w.heap.size, o, none⟩) (by first | omega | (simp <;> omega))
    have c_w5_w_0_0 := c_w5_w_0 0
    conv at c_w5_w_0_0 => rhs; simp [go_sem, *]
    have f_w5_w_0_0 := f_w5_w_0 0
    conv at f_w5_w_0_0 => rhs; simp [go_sem, *]
    have c_w5_w_0_1 := c_w5_w_0 1
    conv at c_w5_w_0_1 => rhs; simp [go_sem, *]
    have f_w5_w_0_1 := f_w5_w_0 1
    conv at f_w5_w_0_1 => rhs; simp [go_sem, *]
    have c_w5_w_0_2 := c_w5_w_0 2
    conv at c_w5_w_0_2 => rhs; simp [go_sem, *]
    have f_w5_w_0_2 := f_w5_w_0 2
    conv at f_w5_w_0_2 => rhs; simp [go_sem, *]
    have c_w5_w_0_3 := c_w5_w_0 3
    conv at c_w5_w_0_3 => rhs; simp [go_sem, *]
    have f_w5_w_0_3 := f_w5_w_0 3
    conv at f_w5_w_0_3 => rhs; simp [go_sem, *]
    have c_w5_w_0_4 := c_w5_w_0 4
    conv at c_w5_w_0_4 => rhs; simp [go_sem, *]
    have f_w5_w_0_4 := f_w5_w_0 4
    conv at f_w5_w_0_4 => rhs; simp [go_sem, *]
    have c_w5_w_0_5 := c_w5_w_0 5
    conv at c_w5_w_0_5 => rhs; simp [go_sem, *]
    have f_w5_w_0_5 := f_w5_w_0 5
    conv at f_w5_w_0_5 => rhs; simp [go_sem, *]
    have c_w5_w3_0 := fun o => hb_w5.cell (p := ⟨w3.heap.size, o, none⟩) (by first | omega | (simp <;> omega))
    have f_w5_w3_0 := fun o => hb_w5.frozen (p := ⟨w3.heap.size, o, none⟩) (by first | omega | (simp <;> omega))
    have c_w5_w3_0_0 := c_w5_w3_0 0
    conv at c_w5_w3_0_0 => rhs; simp [go_sem, *]
    have f_w5_w3_0_0 := f_w5_w3_0 0
    conv at f_w5_w3_0_0 => rhs; simp [go_sem, *]
    have c_w5_w3_0_1 := c_w5_w3_0 1
    conv at c_w5_w3_0_1 => rhs; simp [go_sem, *]
    have f_w5_w3_0_1 := f_w5_w3_0 1
    conv at f_w5_w3_0_1 => rhs; simp [go_sem, *]
    have c_w5_w3_0_2 := c_w5_w3_0 2
    conv at c_w5_w3_0_2 => rhs; simp [go_sem, *]
    have f_w5_w3_0_2 := f_w5_w3_0 2
    conv at f_w5_w3_0_2 => rhs; simp [go_sem, *]
    have c_w5_w3_0_3 := c_w5_w3_0 3
    conv at c_w5_w3_0_3 => rhs; simp [go_sem, *]
    have f_w5_w3_0_3 := f_w5_w3_0 3
    conv at f_w5_w3_0_3 => rhs; simp [go_sem, *]
    have c_w5_w3_0_4 := c_w5_w3_0 4
    conv at c_w5_w3_0_4 => rhs; simp [go_sem, *]
    have f_w5_w3_0_4 := f_w5_w3_0 4
    conv at f_w5_w3_0_4 => rhs; simp [go_sem, *]
    have c_w5_w3_0_5 := c_w5_w3_0 5
    conv at c_w5_w3_0_5 => rhs; simp [go_sem, *]
    have f_w5_w3_0_5 := f_w5_w3_0 5
    conv at f_w5_w3_0_5 => rhs; simp [go_sem, *]
    have c_w5_w4_0 := fun o => hb_w5.cell (p := ⟨w4.heap.size, o, none⟩) (by first | omega | (simp <;> omega))
    have f_w5_w4_0 := fun o => hb_w5.frozen (p := ⟨w4.heap.size, o, none⟩) (by first | omega | (simp <;> omega))
    have c_w5_w4_0_0 := c_w5_w4_0 0
    conv at c_w5_w4_0_0 => rhs; simp [go_sem, *]
    have f_w5_w4_0_0 := f_w5_w4_0 0
    conv at f_w5_w4_0_0 => rhs; simp [go_sem, *]
    have c_w5_w4_0_1 := c_w5_w4_0 1
    conv at c_w5_w4_0_1 => rhs; simp [go_sem, *]
    have f_w5_w4_0_1 := f_w5_w4_0 1
    conv at f_w5_w4_0_1 => rhs; simp [go_sem, *]
    have c_w5_w4_0_2 := c_w5_w4_0 2
    conv at c_w5_w4_0_2 => rhs; simp [go_sem, *]
    have f_w5_w4_0_2 := f_w5_w4_0 2
    conv at f_w5_w4_0_2 => rhs; simp [go_sem, *]
    have c_w5_w4_0_3 := c_w5_w4_0 3
    conv at c_w5_w4_0_3 => rhs; simp [go_sem, *]
    have f_w5_w4_0_3 := f_w5_w4_0 3
    conv at f_w5_w4_0_3 => rhs; simp [go_sem, *]
    have c_w5_w4_0_4 := c_w5_w4_0 4
    conv at c_w5_w4_0_4 => rhs; simp [go_sem, *]
    have f_w5_w4_0_4 := f_w5_w4_0 4
    conv at f_w5_w4_0_4 => rhs; simp [go_sem, *]
    have c_w5_w4_0_5 := c_w5_w4_0 5
    conv at c_w5_w4_0_5 => rhs; simp [go_sem, *]
    have f_w5_w4_0_5 := f_w5_w4_0 5
    conv at f_w5_w4_0_5 => rhs; simp [go_sem, *]
    have hB_w5 : Below w.heap.size w w5 := Below.trans (by (repeat (first | (with_reducible exact Below.refl _ _) | (with_reducible assumption) | (with_reducible refine Below.drew ?_) | (focus ((with_reducible refine Below.setCell ?_ ?_ _); rotate_left; (first | omega | (simp <;> omega)))) | (focus ((with_reducible refine Below.alloc ?_ ?_ _); rotate_left; (first | omega | (simp <;> omega)))) | exact Below.refl _ _ | assumption | refine Below.drew ?_ | refine Below.alloc ?_ (by first | omega | (simp <;> omega)) _ | refine Below.setCell ?_ (by first | omega | (simp <;> omega)) _))) (hb_w5.mono (by first | omega | (simp <;> omega)))
    clear hb_w5 c_w5_w_0 f_w5_w_0 c_w5_w3_0 f_w5_w3_0 c_w5_w4_0 f_w5_w4_0
    try clear c_w4_w_0_0
    try clear f_w4_w_0_0
    try clear c_w4_w_0_1
    try clear f_w4_w_0_1
    try clear c_w4_w_0_2
    try clear f_w4_w_0_2
    try clear c_w4_w_0_3
    try clear f_w4_w_0_3
    try clear c_w4_w_0_4
    try clear f_w4_w_0_4
    try clear c_w4_w_0_5
    try clear f_w4_w_0_5
    try clear c_w4_w3_0_0
    try clear f_w4_w3_0_0
    try clear c_w4_w3_0_1
    try clear f_w4_w3_0_1
    try clear c_w4_w3_0_2
    try clear f_w4_w3_0_2
    try clear c_w4_w3_0_3
    try clear f_w4_w3_0_3
    try clear c_w4_w3_0_4
    try clear f_w4_w3_0_4
    try clear c_w4_w3_0_5
    try clear f_w4_w3_0_5
    try clear far_w4_w_0
    try clear far_w4_w3_0
    try clear hB_w4
    have far_w5_w_0 := far (show w.heap.size < w5.heap.size by omega)
    have far_w5_w3_0 := far (show w3.heap.size < w5.heap.size by omega)
    have far_w5_w4_0 := far (show w4.heap.size < w5.heap.size by omega)
    go_wp2_with fail
    refine Calls.mono (C5.out _ (by (repeat (first | (with_reducible exact Below.refl _ _) | (with_reducible assumption) | (with_reducible refine Below.drew ?_) | (focus ((with_reducible refine Below.setCell ?_ ?_ _); rotate_left; (first | omega | (simp <;> omega)))) | (focus ((with_reducible refine Below.alloc ?_ ?_ _); rotate_left; (first | omega | (simp <;> omega)))) | exact Below.refl _ _ | assumption | refine Below.drew ?_ | refine Below.alloc ?_ (by first | omega | (simp <;> omega)) _ | refine Below.setCell ?_ (by first | omega | (simp <;> omega)) _)))) ?_
    rintro e w6 ⟨rfl, hb_w6⟩
    have hz_w6 := hb_w6.size
    try simp at hz_w6
    obtain ⟨c_w6_w_0, f_w6_w_0⟩ := bk hb_w6 (w.heap.size) (by first | omega | (simp <;> omega))
    have c_w6_w_0_0 := c_w6_w_0 0
    conv at c_w6_w_0_0 => rhs; simp [go_sem, *]
    have f_w6_w_0_0 := f_w6_w_0 0
    conv at f_w6_w_0_0 => rhs; simp [go_sem, *]
    have c_w6_w_0_1 := c_w6_w_0 1
    conv at c_w6_w_0_1 => rhs; simp [go_sem, *]
    have f_w6_w_0_1 := f_w6_w_0 1
    conv at f_w6_w_0_1 => rhs; simp [go_sem, *]
    have c_w6_w_0_2 := c_w6_w_0 2
    conv at c_w6_w_0_2 => rhs; simp [go_sem, *]
    have f_w6_w_0_2 := f_w6_w_0 2
    conv at f_w6_w_0_2 => rhs; simp [go_sem, *]
    have c_w6_w_0_3 := c_w6_w_0 3
    conv at c_w6_w_0_3 => rhs; simp [go_sem, *]
    have f_w6_w_0_3 := f_w6_w_0 3
    conv at f_w6_w_0_3 => rhs; simp [go_sem, *]
    have c_w6_w_0_4 := c_w6_w_0 4
    conv at c_w6_w_0_4 => rhs; simp [go_sem, *]
    have f_w6_w_0_4 := f_w6_w_0 4
    conv at f_w6_w_0_4 => rhs; simp [go_sem, *]
    have c_w6_w_0_5 := c_w6_w_0 5
    conv at c_w6_w_0_5 => rhs; simp [go_sem, *]
    have f_w6_w_0_5 := f_w6_w_0 5
    conv at f_w6_w_0_5 => rhs; simp [go_sem, *]
    have hB_w6 : Below w.heap.size w w6 := Below.trans (by (repeat (first | (with_reducible exact Below.refl _ _) | (with_reducible assumption) | (with_reducible refine Below.drew ?_) | (focus ((with_reducible refine Below.setCell ?_ ?_ _); rotate_left; (first | omega | (simp <;> omega)))) | (focus ((with_reducible refine Below.alloc ?_ ?_ _); rotate_left; (first | omega | (simp <;> omega)))) | exact Below.refl _ _ | assumption | refine Below.drew ?_ | refine Below.alloc ?_ (by first | omega | (simp <;> omega)) _ | refine Below.setCell ?_ (by first | omega | (simp <;> omega)) _))) (hb_w6.mono (by first | omega | (simp <;> omega)))
    clear hb_w6 c_w6_w_0 f_w6_w_0
    try clear c_w5_w_0_0
    try clear f_w5_w_0_0
    try clear c_w5_w_0_1
    try clear f_w5_w_0_1
    try clear c_w5_w_0_2
    try clear f_w5_w_0_2
    try clear c_w5_w_0_3
    try clear f_w5_w_0_3
    try clear c_w5_w_0_4
    try clear f_w5_w_0_4
    try clear c_w5_w_0_5
    try clear f_w5_w_0_5
    try clear c_w5_w3_0_0
    try clear f_w5_w3_0_0
    try clear c_w5_w3_0_1
    try clear f_w5_w3_0_1
    try clear c_w5_w3_0_2
    try clear f_w5_w3_0_2
    try clear c_w5_w3_0_3
    try clear f_w5_w3_0_3
    try clear c_w5_w3_0_4
    try clear f_w5_w3_0_4
    try clear c_w5_w3_0_5
    try clear f_w5_w3_0_5
    try clear c_w5_w4_0_0
    try clear f_w5_w4_0_0
    try clear c_w5_w4_0_1
    try clear f_w5_w4_0_1
    try clear c_w5_w4_0_2
    try clear f_w5_w4_0_2
    try clear c_w5_w4_0_3
    try clear f_w5_w4_0_3
    try clear c_w5_w4_0_4
    try clear f_w5_w4_0_4
    try clear c_w5_w4_0_5
    try clear f_w5_w4_0_5
    try clear far_w5_w_0
    try clear far_w5_w3_0
    try clear far_w5_w4_0
    try clear hB_w5
    have far_w6_w_0 := far (show w.heap.size < w6.heap.size by omega)
    go_wp2
    go_ret
    refine ⟨ret_bool (by simp), ?_⟩
    (repeat (first | (with_reducible exact Below.refl _ _) | (with_reducible assumption) | (with_reducible refine Below.drew ?_) | (focus ((with_reducible refine Below.setCell ?_ ?_ _); rotate_left; (first | omega | (simp <;> omega)))) | (focus ((with_reducible refine Below.alloc ?_ ?_ _); rotate_left; (first | omega | (simp <;> omega)))) | exact Below.refl _ _ | assumption | refine Below.drew ?_ | refine Below.alloc ?_ (by first | omega | (simp <;> omega)) _ | refine Below.setCell ?_ (by first | omega | (simp <;> omega)) _))
  | true =>
    simp only [if_true] at C1
    go_wp2_with fail
    refine Calls.mono (C1.out _ (by (repeat (first | (with_reducible exact Below.refl _ _) | (with_reducible assumption) | (with_reducible refine Below.drew ?_) | (focus ((with_reducible refine Below.setCell ?_ ?_ _); rotate_left; (first | omega | (simp <;> omega)))) | (focus ((with_reducible refine Below.alloc ?_ ?_ _); rotate_left; (first | omega | (simp <;> omega)))) | exact Below.refl _ _ | assumption | refine Below.drew ?_ | refine Below.alloc ?_ (by first | omega | (simp <;> omega)) _ | refine Below.setCell ?_ (by first | omega | (simp <;> omega)) _)))) ?_
    rintro e w2 ⟨rfl, hb_w2⟩
    have hz_w2 := hb_w2.size
    try simp at hz_w2
    obtain ⟨c_w2_w_0, f_w2_w_0⟩ := bk hb_w2 (w.heap.size) (by first | omega | (simp <;> omega))
    have c_w2_w_0_0 := c_w2_w_0 0
    conv at c_w2_w_0_0 => rhs; simp [go_sem, *]
    have f_w2_w_0_0 := f_w2_w_0 0
    conv at f_w2_w_0_0 => rhs; simp [go_sem, *]
    have c_w2_w_0_1 := c_w2_w_0 1
    conv at c_w2_w_0_1 => rhs; simp [go_sem, *]
    have f_w2_w_0_1 := f_w2_w_0 1
    conv at f_w2_w_0_1 => rhs; simp [go_sem, *]
    have c_w2_w_0_2 := c_w2_w_0 2
    conv at c_w2_w_0_2 => rhs; simp [go_sem, *]
    have f_w2_w_0_2 := f_w2_w_0 2
    conv at f_w2_w_0_2 => rhs; simp [go_sem, *]
    have c_w2_w_0_3 := c_w2_w_0 3
    conv at c_w2_w_0_3 => rhs; simp [go_sem, *]
    have f_w2_w_0_3 := f_w2_w_0 3
    conv at f_w2_w_0_3 => rhs; simp [go_sem, *]
    have c_w2_w_0_4 := c_w2_w_0 4
    conv at c_w2_w_0_4 => rhs; simp [go_sem, *]
    have f_w2_w_0_4 := f_w2_w_0 4
    conv at f_w2_w_0_4 => rhs; simp [go_sem, *]
    have c_w2_w_0_5 := c_w2_w_0 5
    conv at c_w2_w_0_5 => rhs; simp [go_sem, *]
    have f_w2_w_0_5 := f_w2_w_0 5
    conv at f_w2_w_0_5 => rhs; simp [go_sem, *]
    have hB_w2 : Below w.heap.size w w2 := Below.trans (by (repeat (first | (with_reducible exact Below.refl _ _) | (with_reducible assumption) | (with_reducible refine Below.drew ?_) | (focus ((with_reducible refine Below.setCell ?_ ?_ _); rotate_left; (first | omega | (simp <;> omega)))) | (focus ((with_reducible refine Below.alloc ?_ ?_ _); rotate_left; (first | omega | (simp <;> omega)))) | exact Below.refl _ _ | assumption | refine Below.drew ?_ | refine Below.alloc ?_ (by first | omega | (simp <;> omega)) _ | refine Below.setCell ?_ (by first | omega | (simp <;> omega)) _))) (hb_w2.mono (by first | omega | (simp <;> omega)))
    clear hb_w2 c_w2_w_0 f_w2_w_0
    try clear c_w6_w_0_0
    try clear f_w6_w_0_0
    try clear c_w6_w_0_1
    try clear f_w6_w_0_1
    try clear c_w6_w_0_2
    try clear f_w6_w_0_2
    try clear c_w6_w_0_3
    try clear f_w6_w_0_3
    try clear c_w6_w_0_4
    try clear f_w6_w_0_4
    try clear c_w6_w_0_5
    try clear f_w6_w_0_5
    try clear far_w6_w_0
    try clear hB_w6
    have far_w2_w_0 := far (show w.heap.size < w2.heap.size by omega)
    go_wp2_with fail
    refine Calls.mono (C2.out _ (by (repeat (first | (with_reducible exact Below.refl _ _) | (with_reducible assumption) | (with_reducible refine Below.drew ?_) | (focus ((with_reducible refine Below.setCell ?_ ?_ _); rotate_left; (first | omega | (simp <;> omega)))) | (focus ((with_reducible refine Below.alloc ?_ ?_ _); rotate_left; (first | omega | (simp <;> omega)))) | exact Below.refl _ _ | assumption | refine Below.drew ?_ | refine Below.alloc ?_ (by first | omega | (simp <;> omega)) _ | refine Below.setCell ?_ (by first | omega | (simp <;> omega)) _)))) ?_
    rintro e w3 ⟨rfl, hb_w3⟩
    have hz_w3 := hb_w3.size
    try simp at hz_w3
    obtain ⟨c_w3_w_0, f_w3_w_0⟩ := bk hb_w3 (w.heap.size) (by first | omega | (simp <;> omega))
    have c_w3_w_0_0 := c_w3_w_0 0
    conv at c_w3_w_0_0 => rhs; simp [go_sem, *]
    have f_w3_w_0_0 := f_w3_w_0 0
    conv at f_w3_w_0_0 => rhs; simp [go_sem, *]
    have c_w3_w_0_1 := c_w3_w_0 1
    conv at c_w3_w_0_1 => rhs; simp [go_sem, *]
    have f_w3_w_0_1 := f_w3_w_0 1
    conv at f_w3_w_0_1 => rhs; simp [go_sem, *]
    have c_w3_w_0_2 := c_w3_w_0 2
    conv at c_w3_w_0_2 => rhs; simp [go_sem, *]
    have f_w3_w_0_2 := f_w3_w_0 2
    conv at f_w3_w_0_2 => rhs; simp [go_sem, *]
    have c_w3_w_0_3 := c_w3_w_0 3
    conv at c_w3_w_0_3 => rhs; simp [go_sem, *]
    have f_w3_w_0_3 := f_w3_w_0 3
    conv at f_w3_w_0_3 => rhs; simp [go_sem, *]
    have c_w3_w_0_4 := c_w3_w_0 4
    conv at c_w3_w_0_4 => rhs; simp [go_sem, *]
    have f_w3_w_0_4 := f_w3_w_0 4
    conv at f_w3_w_0_4 => rhs; simp [go_sem, *]
    have c_w3_w_0_5 := c_w3_w_0 5
    conv at c_w3_w_0_5 => rhs; simp [go_sem, *]
    have f_w3_w_0_5 := f_w3_w_0 5
    conv at f_w3_w_0_5 => rhs; simp [go_sem, *]
    have hB_w3 : Below w.heap.size w w3 := Below.trans (by (repeat (first | (with_reducible exact Below.refl _ _) | (with_reducible assumption) | (with_reducible refine Below.drew ?_) | (focus ((with_reducible refine Below.setCell ?_ ?_ _); rotate_left; (first | omega | (simp <;> omega)))) | (focus ((with_reducible refine Below.alloc ?_ ?_ _); rotate_left; (first | omega | (simp <;> omega)))) | exact Below.refl _ _ | assumption | refine Below.drew ?_ | refine Below.alloc ?_ (by first | omega | (simp <;> omega)) _ | refine Below.setCell ?_ (by first | omega | (simp <;> omega)) _))) (hb_w3.mono (by first | omega | (simp <;> omega)))
    clear hb_w3 c_w3_w_0 f_w3_w_0
    try clear c_w2_w_0_0
    try clear f_w2_w_0_0
    try clear c_w2_w_0_1
    try clear f_w2_w_0_1
    try clear c_w2_w_0_2
    try clear f_w2_w_0_2
    try clear c_w2_w_0_3
    try clear f_w2_w_0_3
    try clear c_w2_w_0_4
    try clear f_w2_w_0_4
    try clear c_w2_w_0_5
    try clear f_w2_w_0_5
    try clear far_w2_w_0
    try clear hB_w2
    have far_w3_w_0 := far (show w.heap.size < w3.heap.size by omega)
    go_wp2_with fail
    refine Calls.mono (C3.out _ (by (repeat (first | (with_reducible exact Below.refl _ _) | (with_reducible assumption) | (with_reducible refine Below.drew ?_) | (focus ((with_reducible refine Below.setCell ?_ ?_ _); rotate_left; (first | omega | (simp <;> omega)))) | (focus ((with_reducible refine Below.alloc ?_ ?_ _); rotate_left; (first | omega | (simp <;> omega)))) | exact Below.refl _ _ | assumption | refine Below.drew ?_ | refine Below.alloc ?_ (by first | omega | (simp <;> omega)) _ | refine Below.setCell ?_ (by first | omega | (simp <;> omega)) _)))) ?_
    rintro e w4 ⟨rfl, hb_w4⟩
    have hz_w4 := hb_w4.size
    try simp at hz_w4
    obtain ⟨c_w4_w_0, f_w4_w_0⟩ := bk hb_w4 (w.heap.size) (by first | omega | (simp <;> omega))
    have c_w4_w_0_0 := c_w4_w_0 0
    conv at c_w4_w_0_0 => rhs; simp [go_sem, *]
    have f_w4_w_0_0 := f_w4_w_0 0
    conv at f_w4_w_0_0 => rhs; simp [go_sem, *]
    have c_w4_w_0_1 := c_w4_w_0 1
    conv at c_w4_w_0_1 => rhs; simp [go_sem, *]
    have f_w4_w_0_1 := f_w4_w_0 1
    conv at f_w4_w_0_1 => rhs; simp [go_sem, *]
    have c_w4_w_0_2 := c_w4_w_0 2
    conv at c_w4_w_0_2 => rhs; simp [go_sem, *]
    have f_w4_w_0_2 := f_w4_w_0 2
    conv at f_w4_w_0_2 => rhs; simp [go_sem, *]
    have c_w4_w_0_3 := c_w4_w_0 3
    conv at c_w4_w_0_3 => rhs; simp [go_sem, *]
    have f_w4_w_0_3 := f_w4_w_0 3
    conv at f_w4_w_0_3 => rhs; simp [go_sem, *]
    have c_w4_w_0_4 := c_w4_w_0 4
    conv at c_w4_w_0_4 => rhs; simp [go_sem, *]
    have f_w4_w_0_4 := f_w4_w_0 4
    conv at f_w4_w_0_4 => rhs; simp [go_sem, *]
    have c_w4_w_0_5 := c_w4_w_0 5
    conv at c_w4_w_0_5 => rhs; simp [go_sem, *]
    have f_w4_w_0_5 := f_w4_w_0 5
    conv at f_w4_w_0_5 => rhs; simp [go_sem, *]
    obtain ⟨c_w4_w3_0, f_w4_w3_0⟩ := bk hb_w4 (w3.heap.size) (by first | omega | (simp <;> omega))
    have c_w4_w3_0_0 := c_w4_w3_0 0
    conv at c_w4_w3_0_0 => rhs; simp [go_sem, *]
    have f_w4_w3_0_0 := f_w4_w3_0 0
    conv at f_w4_w3_0_0 => rhs; simp [go_sem, *]
    have c_w4_w3_0_1 := c_w4_w3_0 1
    conv at c_w4_w3_0_1 => rhs; simp [go_sem, *]
    have f_w4_w3_0_1 := f_w4_w3_0 1
    conv at f_w4_w3_0_1 => rhs; simp [go_sem, *]
    have c_w4_w3_0_2 := c_w4_w3_0 2
    conv at c_w4_w3_0_2 => rhs; simp [go_sem, *]
    have f_w4_w3_0_2 := f_w4_w3_0 2
    conv at f_w4_w3_0_2 => rhs; simp [go_sem, *]
    have c_w4_w3_0_3 := c_w4_w3_0 3
    conv at c_w4_w3_0_3 => rhs; simp [go_sem, *]
    have f_w4_w3_0_3 := f_w4_w3_0 3
    conv at f_w4_w3_0_3 => rhs; simp [go_sem, *]
    have c_w4_w3_0_4 := c_w4_w3_0 4
    conv at c_w4_w3_0_4 => rhs; simp [go_sem, *]
    have f_w4_w3_0_4 := f_w4_w3_0 4
    conv at f_w4_w3_0_4 => rhs; simp [go_sem, *]
    have c_w4_w3_0_5 := c_w4_w3_0 5
    conv at c_w4_w3_0_5 => rhs; simp [go_sem, *]
    have f_w4_w3_0_5 := f_w4_w3_0 5
    conv at f_w4_w3_0_5 => rhs; simp [go_sem, *]
    have hB_w4 : Below w.heap.size w w4 := Below.trans (by (repeat (first | (with_reducible exact Below.refl _ _) | (with_reducible assumption) | (with_reducible refine Below.drew ?_) | (focus ((with_reducible refine Below.setCell ?_ ?_ _); rotate_left; (first | omega | (simp <;> omega)))) | (focus ((with_reducible refine Below.alloc ?_ ?_ _); rotate_left; (first | omega | (simp <;> omega)))) | exact Below.refl _ _ | assumption | refine Below.drew ?_ | refine Below.alloc ?_ (by first | omega | (simp <;> omega)) _ | refine Below.setCell ?_ (by first | omega | (simp <;> omega)) _))) (hb_w4.mono (by first | omega | (simp <;> omega)))
    clear hb_w4 c_w4_w_0 f_w4_w_0 c_w4_w3_0 f_w4_w3_0
    try clear c_w3_w_0_0
    try clear f_w3_w_0_0
    try clear c_w3_w_0_1
    try clear f_w3_w_0_1
    try clear c_w3_w_0_2
    try clear f_w3_w_0_2
    try clear c_w3_w_0_3
    try clear f_w3_w_0_3
    try clear c_w3_w_0_4
    try clear f_w3_w_0_4
    try clear c_w3_w_0_5
    try clear f_w3_w_0_5
    try clear far_w3_w_0
    try clear hB_w3
    have far_w4_w_0 := far (show w.heap.size < w4.heap.size by omega)
    have far_w4_w3_0 := far (show w3.heap.size < w4.heap.size by omega)
    go_wp2_with fail
    refine wp_region_later (w4.heap.size + 1) (by kernel_rfl) (by kernel_rfl) ?_
    have l_w5_w_0 := @Later.at (w4.heap.size + 1) (w.heap.size) (by omega)
    have l_w5_w3_0 := @Later.at (w4.heap.size + 1) (w3.heap.size) (by omega)
    have l_w5_w4_0 := @Later.at (w4.heap.size + 1) (w4.heap.size) (by omega)
    repeat (go_big_quiet_step (first | (go_at_call 10; refine later_of (by (first | omega | (simp <;> omega))) (C4.out _ (later_below (by (repeat (first | (with_reducible exact Below.refl _ _) | (with_reducible assumption) | (with_reducible refine Below.drew ?_) | (focus ((with_reducible refine Below.setCell ?_ ?_ _); rotate_left; (first | omega | (simp <;> omega)))) | (focus ((with_reducible refine Below.alloc ?_ ?_ _); rotate_left; (first | omega | (simp <;> omega)))) | exact Below.refl _ _ | assumption | refine Below.drew ?_ | refine Below.alloc ?_ (by first | omega | (simp <;> omega)) _ | refine Below.setCell ?_ (by first | omega | (simp <;> omega)) _))) (by omega)))) | (go_at_call 11; refine later_of (by (first | omega | (simp <;> omega))) (C5.out _ (later_below (by (repeat (first | (with_reducible exact Below.refl _ _) | (with_reducible assumption) | (with_reducible refine Below.drew ?_) | (focus ((with_reducible refine Below.setCell ?_ ?_ _); rotate_left; (first | omega | (simp <;> omega)))) | (focus ((with_reducible refine Below.alloc ?_ ?_ _); rotate_left; (first | omega | (simp <;> omega)))) | exact Below.refl _ _ | assumption | refine Below.drew ?_ | refine Below.alloc ?_ (by first | omega | (simp <;> omega)) _ | refine Below.setCell ?_ (by first | omega | (simp <;> omega)) _))) (by omega)))) | (go_at_call 12; refine later_of (by (first | omega | (simp <;> omega))) (clean_alive _))))
    refine wpQuiet_nil ?_
    rintro w5 ⟨⟨_, hb_w5⟩, rfl⟩
    clear l_w5_w_0 l_w5_w3_0 l_w5_w4_0
    try simp only [] at hb_w5 ⊢
    have hz_w5 := hb_w5.size
    try simp at hz_w5
    have c_w5_w_0 := fun o => hb_w5.cell (p := ⟨w.heap.size, o, none⟩) (by first | omega | (simp <;> omega))
    have f_w5_w_0 := fun o => hb_w5.frozen (p := ⟨w.heap.size, o, none⟩) (by first | omega | (simp <;> omega))
    have c_w5_w_0_0 := c_w5_w_0 0
    conv at c_w5_w_0_0 => rhs; simp [go_sem, *]
    have f_w5_w_0_0 := f_w5_w_0 0
    conv at f_w5_w_0_0 => rhs; simp [go_sem, *]
    have c_w5_w_0_1 := c_w5_w_0 1
    conv at c_w5_w_0_1 => rhs; simp [go_sem, *]
    have f_w5_w_0_1 := f_w5_w_0 1
    conv at f_w5_w_0_1 => rhs; simp [go_sem, *]
    have c_w5_w_0_2 := c_w5_w_0 2
    conv at c_w5_w_0_2 => rhs; simp [go_sem, *]
    have f_w5_w_0_2 := f_w5_w_0 2
    conv at f_w5_w_0_2 => rhs; simp [go_sem, *]
    have c_w5_w_0_3 := c_w5_w_0 3
    conv at c_w5_w_0_3 => rhs; simp [go_sem, *]
    have f_w5_w_0_3 := f_w5_w_0 3
    conv at f_w5_w_0_3 => rhs; simp [go_sem, *]
    have c_w5_w_0_4 := c_w5_w_0 4
    conv at c_w5_w_0_4 => rhs; simp [go_sem, *]
    have f_w5_w_0_4 := f_w5_w_0 4
    conv at f_w5_w_0_4 => rhs; simp [go_sem, *]
    have c_w5_w_0_5 := c_w5_w_0 5
    conv at c_w5_w_0_5 => rhs; simp [go_sem, *]
    have f_w5_w_0_5 := f_w5_w_0 5
    conv at f_w5_w_0_5 => rhs; simp [go_sem, *]
    have c_w5_w3_0 := fun o => hb_w5.cell (p := ⟨w3.heap.size, o, none⟩) (by first | omega | (simp <;> omega))
    have f_w5_w3_0 := fun o => hb_w5.frozen (p := ⟨w3.heap.size, o, none⟩) (by first | omega | (simp <;> omega))
    have c_w5_w3_0_0 := c_w5_w3_0 0
    conv at c_w5_w3_0_0 => rhs; simp [go_sem, *]
    have f_w5_w3_0_0 := f_w5_w3_0 0
    conv at f_w5_w3_0_0 => rhs; simp [go_sem, *]
    have c_w5_w3_0_1 := c_w5_w3_0 1
    conv at c_w5_w3_0_1 => rhs; simp [go_sem, *]
    have f_w5_w3_0_1 := f_w5_w3_0 1
    conv at f_w5_w3_0_1 => rhs; simp [go_sem, *]
    have c_w5_w3_0_2 := c_w5_w3_0 2
    conv at c_w5_w3_0_2 => rhs; simp [go_sem, *]
    have f_w5_w3_0_2 := f_w5_w3_0 2
    conv at f_w5_w3_0_2 => rhs; simp [go_sem, *]
    have c_w5_w3_0_3 := c_w5_w3_0 3
    conv at c_w5_w3_0_3 => rhs; simp [go_sem, *]
    have f_w5_w3_0_3 := f_w5_w3_0 3
    conv at f_w5_w3_0_3 => rhs; simp [go_sem, *]
    have c_w5_w3_0_4 := c_w5_w3_0 4
    conv at c_w5_w3_0_4 => rhs; simp [go_sem, *]
    have f_w5_w3_0_4 := f_w5_w3_0 4
    conv at f_w5_w3_0_4 => rhs; simp [go_sem, *]
    have c_w5_w3_0_5 := c_w5_w3_0 5
    conv at c_w5_w3_0_5 => rhs; simp [go_sem, *]
    have f_w5_w3_0_5 := f_w5_w3_0 5
    conv at f_w5_w3_0_5 => rhs; simp [go_sem, *]
    have c_w5_w4_0 := fun o => hb_w5.cell (p := ⟨w4.heap.size, o, none⟩) (by first | omega | (simp <;> omega))
    have f_w5_w4_0 := fun o => hb_w5.frozen (p := ⟨w4.heap.size, o, none⟩) (by first | omega | (simp <;> omega))
    have c_w5_w4_0_0 := c_w5_w4_0 0
    conv at c_w5_w4_0_0 => rhs; simp [go_sem, *]
    have f_w5_w4_0_0 := f_w5_w4_0 0
    conv at f_w5_w4_0_0 => rhs; simp [go_sem, *]
    have c_w5_w4_0_1 := c_w5_w4_0 1
    conv at c_w5_w4_0_1 => rhs; simp [go_sem, *]
    have f_w5_w4_0_1 := f_w5_w4_0 1
    conv at f_w5_w4_0_1 => rhs; simp [go_sem, *]
    have c_w5_w4_0_2 := c_w5_w4_0 2
    conv at c_w5_w4_0_2 => rhs; simp [go_sem, *]
    have f_w5_w4_0_2 := f_w5_w4_0 2
    conv at f_w5_w4_0_2 => rhs; simp [go_sem, *]
    have c_w5_w4_0_3 := c_w5_w4_0 3
    conv at c_w5_w4_0_3 => rhs; simp [go_sem, *]
    have f_w5_w4_0_3 := f_w5_w4_0 3
    conv at f_w5_w4_0_3 => rhs; simp [go_sem, *]
    have c_w5_w4_0_4 := c_w5_w4_0 4
    conv at c_w5_w4_0_4 => rhs; simp [go_sem, *]
    have f_w5_w4_0_4 := f_w5_w4_0 4
    conv at f_w5_w4_0_4 => rhs; simp [go_sem, *]
    have c_w5_w4_0_5 := c_w5_w4_0 5
    conv at c_w5_w4_0_5 => rhs; simp [go_sem, *]
    have f_w5_w4_0_5 := f_w5_w4_0 5
    conv at f_w5_w4_0_5 => rhs; simp [go_sem, *]
    have hB_w5 : Below w.heap.size w w5 := Below.trans (by (repeat (first | (with_reducible exact Below.refl _ _) | (with_reducible assumption) | (with_reducible refine Below.drew ?_) | (focus ((with_reducible refine Below.setCell ?_ ?_ _); rotate_left; (first | omega | (simp <;> omega)))) | (focus ((with_reducible refine Below.alloc ?_ ?_ _); rotate_left; (first | omega | (simp <;> omega)))) | exact Below.refl _ _ | assumption | refine Below.drew ?_ | refine Below.alloc ?_ (by first | omega | (simp <;> omega)) _ | refine Below.setCell ?_ (by first | omega | (simp <;> omega)) _))) (hb_w5.mono (by first | omega | (simp <;> omega)))
    clear hb_w5 c_w5_w_0 f_w5_w_0 c_w5_w3_0 f_w5_w3_0 c_w5_w4_0 f_w5_w4_0
    try clear c_w4_w_0_0
    try clear f_w4_w_0_0
    try clear c_w4_w_0_1
    try clear f_w4_w_0_1
    try clear c_w4_w_0_2
    try clear f_w4_w_0_2
    try clear c_w4_w_0_3
    try clear f_w4_w_0_3
    try clear c_w4_w_0_4
    try clear f_w4_w_0_4
    try clear c_w4_w_0_5
    try clear f_w4_w_0_5
    try clear c_w4_w3_0_0
    try clear f_w4_w3_0_0
    try clear c_w4_w3_0_1
    try clear f_w4_w3_0_1
    try clear c_w4_w3_0_2
    try clear f_w4_w3_0_2
    try clear c_w4_w3_0_3
    try clear f_w4_w3_0_3
    try clear c_w4_w3_0_4
    try clear f_w4_w3_0_4
    try clear c_w4_w3_0_5
    try clear f_w4_w3_0_5
    try clear far_w4_w_0
    try clear far_w4_w3_0
    try clear hB_w4
    have far_w5_w_0 := far (show w.heap.size < w5.heap.size by omega)
    have far_w5_w3_0 := far (show w3.heap.size < w5.heap.size by omega)
    have far_w5_w4_0 := far (show w4.heap.size < w5.heap.size by omega)
    go_wp2_with fail
    refine Calls.mono (C5.out _ (by (repeat (first | (with_reducible exact Below.refl _ _) | (with_reducible assumption) | (with_reducible refine Below.drew ?_) | (focus ((with_reducible refine Below.setCell ?_ ?_ _); rotate_left; (first | omega | (simp <;> omega)))) | (focus ((with_reducible refine Below.alloc ?_ ?_ _); rotate_left; (first | omega | (simp <;> omega)))) | exact Below.refl _ _ | assumption | refine Below.drew ?_ | refine Below.alloc ?_ (by first | omega | (simp <;> omega)) _ | refine Below.setCell ?_ (by first | omega | (simp <;> omega)) _)))) ?_
    rintro e w6 ⟨rfl, hb_w6⟩
    have hz_w6 := hb_w6.size
    try simp at hz_w6
    obtain ⟨c_w6_w_0, f_w6_w_0⟩ := bk hb_w6 (w.heap.size) (by first | omega | (simp <;> omega))
    have c_w6_w_0_0 := c_w6_w_0 0
    conv at c_w6_w_0_0 => rhs; simp [go_sem, *]
    have f_w6_w_0_0 := f_w6_w_0 0
    conv at f_w6_w_0_0 => rhs; simp [go_sem, *]
    have c_w6_w_0_1 := c_w6_w_0 1
    conv at c_w6_w_0_1 => rhs; simp [go_sem, *]
    have f_w6_w_0_1 := f_w6_w_0 1
    conv at f_w6_w_0_1 => rhs; simp [go_sem, *]
    have c_w6_w_0_2 := c_w6_w_0 2
    conv at c_w6_w_0_2 => rhs; simp [go_sem, *]
    have f_w6_w_0_2 := f_w6_w_0 2
    conv at f_w6_w_0_2 => rhs; simp [go_sem, *]
    have c_w6_w_0_3 := c_w6_w_0 3
    conv at c_w6_w_0_3 => rhs; simp [go_sem, *]
    have f_w6_w_0_3 := f_w6_w_0 3
    conv at f_w6_w_0_3 => rhs; simp [go_sem, *]
    have c_w6_w_0_4 := c_w6_w_0 4
    conv at c_w6_w_0_4 => rhs; simp [go_sem, *]
    have f_w6_w_0_4 := f_w6_w_0 4
    conv at f_w6_w_0_4 => rhs; simp [go_sem, *]
    have c_w6_w_0_5 := c_w6_w_0 5
    conv at c_w6_w_0_5 => rhs; simp [go_sem, *]
    have f_w6_w_0_5 := f_w6_w_0 5
    conv at f_w6_w_0_5 => rhs; simp [go_sem, *]
    have hB_w6 : Below w.heap.size w w6 := Below.trans (by (repeat (first | (with_reducible exact Below.refl _ _) | (with_reducible assumption) | (with_reducible refine Below.drew ?_) | (focus ((with_reducible refine Below.setCell ?_ ?_ _); rotate_left; (first | omega | (simp <;> omega)))) | (focus ((with_reducible refine Below.alloc ?_ ?_ _); rotate_left; (first | omega | (simp <;> omega)))) | exact Below.refl _ _ | assumption | refine Below.drew ?_ | refine Below.alloc ?_ (by first | omega | (simp <;> omega)) _ | refine Below.setCell ?_ (by first | omega | (simp <;> omega)) _))) (hb_w6.mono (by first | omega | (simp <;> omega)))
    clear hb_w6 c_w6_w_0 f_w6_w_0
    try clear c_w5_w_0_0
    try clear f_w5_w_0_0
    try clear c_w5_w_0_1
    try clear f_w5_w_0_1
    try clear c_w5_w_0_2
    try clear f_w5_w_0_2
    try clear c_w5_w_0_3
    try clear f_w5_w_0_3
    try clear c_w5_w_0_4
    try clear f_w5_w_0_4
    try clear c_w5_w_0_5
    try clear f_w5_w_0_5
    try clear c_w5_w3_0_0
    try clear f_w5_w3_0_0
    try clear c_w5_w3_0_1
    try clear f_w5_w3_0_1
    try clear c_w5_w3_0_2
    try clear f_w5_w3_0_2
    try clear c_w5_w3_0_3
    try clear f_w5_w3_0_3
    try clear c_w5_w3_0_4
    try clear f_w5_w3_0_4
    try clear c_w5_w3_0_5
    try clear f_w5_w3_0_5
    try clear c_w5_w4_0_0
    try clear f_w5_w4_0_0
    try clear c_w5_w4_0_1
    try clear f_w5_w4_0_1
    try clear c_w5_w4_0_2
    try clear f_w5_w4_0_2
    try clear c_w5_w4_0_3
    try clear f_w5_w4_0_3
    try clear c_w5_w4_0_4
    try clear f_w5_w4_0_4
    try clear c_w5_w4_0_5
    try clear f_w5_w4_0_5
    try clear far_w5_w_0
    try clear far_w5_w3_0
    try clear far_w5_w4_0
    try clear hB_w5
    have far_w6_w_0 := far (show w.heap.size < w6.heap.size by omega)
    go_wp2_with fail
    refine Calls.mono (C6.out (by simp) _ (by (repeat (first | (with_reducible exact Below.refl _ _) | (with_reducible assumption) | (with_reducible refine Below.drew ?_) | (focus ((with_reducible refine Below.setCell ?_ ?_ _); rotate_left; (first | omega | (simp <;> omega)))) | (focus ((with_reducible refine Below.alloc ?_ ?_ _); rotate_left; (first | omega | (simp <;> omega)))) | exact Below.refl _ _ | assumption | refine Below.drew ?_ | refine Below.alloc ?_ (by first | omega | (simp <;> omega)) _ | refine Below.setCell ?_ (by first | omega | (simp <;> omega)) _)))) ?_
    rintro e w7 ⟨rfl, hb_w7⟩
    have hz_w7 := hb_w7.size
    try simp at hz_w7
    have hB_w7 : Below w.heap.size w w7 := Below.trans (by (repeat (first | (with_reducible exact Below.refl _ _) | (with_reducible assumption) | (with_reducible refine Below.drew ?_) | (focus ((with_reducible refine Below.setCell ?_ ?_ _); rotate_left; (first | omega | (simp <;> omega)))) | (focus ((with_reducible refine Below.alloc ?_ ?_ _); rotate_left; (first | omega | (simp <;> omega)))) | exact Below.refl _ _ | assumption | refine Below.drew ?_ | refine Below.alloc ?_ (by first | omega | (simp <;> omega)) _ | refine Below.setCell ?_ (by first | omega | (simp <;> omega)) _))) (hb_w7.mono (by first | omega | (simp <;> omega)))
    clear hb_w7
    try clear c_w6_w_0_0
    try clear f_w6_w_0_0
    try clear c_w6_w_0_1
    try clear f_w6_w_0_1
    try clear c_w6_w_0_2
    try clear f_w6_w_0_2
    try clear c_w6_w_0_3
    try clear f_w6_w_0_3
    try clear c_w6_w_0_4
    try clear f_w6_w_0_4
    try clear c_w6_w_0_5
    try clear f_w6_w_0_5
    try clear far_w6_w_0
    try clear hB_w6
    go_wp2
    go_ret
    refine ⟨ret_bool (by simp), ?_⟩
    (repeat (first | (with_reducible exact Below.refl _ _) | (with_reducible assumption) | (with_reducible refine Below.drew ?_) | (focus ((with_reducible refine Below.setCell ?_ ?_ _); rotate_left; (first | omega | (simp <;> omega)))) | (focus ((with_reducible refine Below.alloc ?_ ?_ _); rotate_left; (first | omega | (simp <;> omega)))) | exact Below.refl _ _ | assumption | refine Below.drew ?_ | refine Below.alloc ?_ (by first | omega | (simp <;> omega)) _ | refine Below.setCell ?_ (by first | omega | (simp <;> omega)) _))

theorem uriReads_any (a0 : Bool) (a1 : ByteArray) (a2 : Int) (a3 : ByteArray) (a4 : Bool) (a5 : ByteArray) (b : ByteArray) (W : World)
    (h1 : a1.size ≤ maxLen) (h2 : (Lit.int .i64 a2).wf) (h3 : a3.size ≤ maxLen) (h5 : a5.size ≤ maxLen) (k1 : b.size ≤ maxLen) (hL : Laid W) :
    Calls Tryd.prog 3 #[.agg #[.bool a0, .string a1, .int .i64 a2, .string a3, .bool a4, .string a5], .string b] W fun e w' => e = .returned (.bool true) ∧ Below W.heap.size W w' := by
  obtain ⟨l1, rfl⟩ := S_of a1
  obtain ⟨l3, rfl⟩ := S_of a3
  obtain ⟨l5, rfl⟩ := S_of a5
  obtain ⟨m1, rfl⟩ := S_of b
  rw [S_size] at h1 h3 h5 k1
  exact uriReads ⟨a0, l1, a2, l3, a4, l5⟩ ⟨h1, h3, h5⟩ m1 k1 W hL
end Go.Proofs.YtpglgembgpoeiaaDoor
