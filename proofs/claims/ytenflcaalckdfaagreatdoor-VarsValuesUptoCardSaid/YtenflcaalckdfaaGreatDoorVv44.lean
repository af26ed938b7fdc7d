/- What a request says: the walks of vars.Of, of the document's Of. -/
import Derived.Test.YtenflcaalckdfaaGreatDoorVv43
import Derived.Test.YtenflcaalckdfaaGreatDoorVv16
import Derived.Test.YtenflcaalckdfaaGreatDoorVv9
namespace Go.Proofs.YtenflcaalckdfaaGreatDoor
open Go Go.RowKit Go.Sort Go.Shelf
set_option linter.unusedVariables false
set_option linter.unusedSimpArgs false

theorem same_below2 {f : Nat} {args : Array Value} {w : World} {v : Value} (h : Calls Tryz.prog f args w fun e w' => e = .returned v ∧ w' = w) : Calls Tryz.prog f args w fun e w' => e = .returned v ∧ Below w.heap.size w w' :=
  h.mono fun _ _ ⟨h1, h2⟩ => ⟨h1, by rw [h2]; exact Below.refl _ _⟩
def nHost : List UInt8 := [72, 111, 115, 116]
def nRef : List UInt8 := [82, 101, 102, 101, 114, 101, 114]
def nAgent : List UInt8 := [85, 115, 101, 114, 45, 65, 103, 101, 110, 116]
def nCookie : List UInt8 := [67, 111, 111, 107, 105, 101]
def nLang : List UInt8 := [65, 99, 99, 101, 112, 116, 45, 76, 97, 110, 103, 117, 97, 103, 101]
def ofE (t : List UInt8) (F : List FldT) : En := ⟨(getVT F nHost).1, (getVT F nRef).1, (getVT F nAgent).1, joinedLT F nCookie, joinedLT F nLang, (cut1 t 63).2.1⟩
theorem low_named {a b : List UInt8} (h : lower a = lower b) (F : List FldT) : namedL F a = namedL F b := by
  unfold namedL
  congr 1
  funext f
  unfold sameN
  rw [h]
theorem getV_allT (F : List FldT) (n : List UInt8) : (getVT F n).1 = ((namedL F n).map (·.2)).headD [] := by
  unfold getVT namedL
  rw [List.headD_eq_head?_getD, List.head?_map, List.head?_filter]
  cases F.find? (fun f => sameN f.1 n) <;> rfl
theorem qry_cons (c : UInt8) (l : List UInt8) : (cut1 (c :: l) 63).2.1 = if c = 63 then l else (cut1 l 63).2.1 := by
  have hg := Lib.indexByte_ge l 63
  by_cases h : c = 63
  · subst h
    have e : Lib.indexByte (63 :: l) 63 = 0 := by unfold Lib.indexByte; simp
    unfold cut1
    rw [e]
    simp
  · rw [if_neg h]
    have e : Lib.indexByte (c :: l) 63 = if Lib.indexByte l 63 == -1 then -1 else Lib.indexByte l 63 + 1 := by
      conv => lhs; unfold Lib.indexByte
      simp [h]
    unfold cut1
    rw [e]
    by_cases h2 : Lib.indexByte l 63 = -1
    · rw [h2]; simp
    · have h3 : (Lib.indexByte l 63 == -1) = false := by simpa using h2
      rw [h3]
      simp only [Bool.false_eq_true, if_false]
      rw [if_pos (show 0 ≤ Lib.indexByte l 63 + 1 by omega), if_pos (show 0 ≤ Lib.indexByte l 63 by omega)]
      simp only
      rw [show (Lib.indexByte l 63 + 1).toNat = (Lib.indexByte l 63).toNat + 1 by omega, List.drop_succ_cons]

theorem ofGet (g : Nat) (n : List UInt8) (hn : n.length ≤ 1000) (v : Value) (F : List FldT) (W : World) (hc : W.cell? ⟨g, 5, none⟩ = some v) (hr : ReadsFT W v F) (hs : ∀ f ∈ F, SmallT f) :
    Calls Tryz.prog 38 #[.string (S n), .pointer (some ⟨g, 0, none⟩)] W fun e w' => e = .returned (.string (S (getVT F n).1)) ∧ Below W.heap.size W w' := by
  have GE := Lib.hid (tableGetT v F n (by omega) W hr hs)
  clear hr hs
  go_enter Tryz.func38, Tryz.ntmps38
  go_wp2_with (go_at_call 39; refine Calls.mono GE.out ?_; rintro e w1 ⟨rfl, hb1⟩; have HB1 := Lib.hid hb1; clear hb1)
  go_ret
  exact ⟨rfl, HB1.out⟩
theorem ofAll (g : Nat) (n : List UInt8) (hn : n.length ≤ 1000) (v : Value) (F : List FldT) (W : World) (hc : W.cell? ⟨g, 5, none⟩ = some v) (hr : ReadsFT W v F) (hs : ∀ f ∈ F, SmallT f) (hv : ∀ f ∈ F, f.2.length ≤ 1048576) (hl : F.length ≤ 1000) :
    Calls Tryz.prog 40 #[.string (S n), .pointer (some ⟨g, 0, none⟩)] W fun e w' => e = .returned (.string (S (joinedLT F n))) ∧ Below W.heap.size W w' := by
  have GE := Lib.hid (tableJoinedT v F n (by omega) W hr hs hv hl)
  clear hr hs hv
  go_enter Tryz.func40, Tryz.ntmps40
  go_wp2_with (go_at_call 41; refine Calls.mono GE.out ?_; rintro e w1 ⟨rfl, hb1⟩; have HB1 := Lib.hid hb1; clear hb1)
  go_ret
  exact ⟨rfl, HB1.out⟩

set_option maxHeartbeats 3200000 in
set_option maxRecDepth 100000 in
theorem varsOf (m t r bo : List UInt8) (c n : Int) (ao : Option Addr) (cap : Nat) (F : List FldT) (w : World) (hr : ReadsFT w (.slice ao F.length cap) F) (hs : ∀ f ∈ F, SmallT f) (hv : ∀ f ∈ F, f.2.length ≤ 1048576) (hl : F.length ≤ 1000) (ht : t.length ≤ 1048576) :
    Calls Tryz.prog 15 #[.agg #[.string (S m), .string (S t), .int .i64 c, .string (S r), .int .i64 n, .slice ao F.length cap, .string (S bo)]] w fun e w' => e = .returned (ofE t F).v ∧ Below w.heap.size w w' := by
  have GE := Lib.hid (fun (k : List UInt8) (hk : k.length ≤ 1000) W (hb : Below w.heap.size w W) hc => ofGet w.heap.size k hk _ F W hc (hr.below hb) hs)
  have GA := Lib.hid (fun (k : List UInt8) (hk : k.length ≤ 1000) W (hb : Below w.heap.size w W) hc => ofAll w.heap.size k hk _ F W hc (hr.below hb) hs hv hl)
  obtain ⟨⟨q1, q2, q3⟩, hq⟩ : ∃ x, cut1 t 63 = x := ⟨_, rfl⟩
  have CU := Lib.hid (fun W => cut1_S hq (by omega) W)
  unfold ofE
  rw [hq]
  obtain ⟨g1, hg1⟩ : ∃ x, (getVT F nHost).1 = x := ⟨_, rfl⟩
  obtain ⟨g2, hg2⟩ : ∃ x, (getVT F nRef).1 = x := ⟨_, rfl⟩
  obtain ⟨g3, hg3⟩ : ∃ x, (getVT F nAgent).1 = x := ⟨_, rfl⟩
  obtain ⟨g4, hg4⟩ : ∃ x, joinedLT F nCookie = x := ⟨_, rfl⟩
  obtain ⟨g5, hg5⟩ : ∃ x, joinedLT F nLang = x := ⟨_, rfl⟩
  have E1 := Lib.hid (fun W hb hc => GE.out nHost (by decide) W hb hc)
  have E2 := Lib.hid (fun W hb hc => GE.out nRef (by decide) W hb hc)
  have E3 := Lib.hid (fun W hb hc => GE.out nAgent (by decide) W hb hc)
  have E4 := Lib.hid (fun W hb hc => GA.out nCookie (by decide) W hb hc)
  have E5 := Lib.hid (fun W hb hc => GA.out nLang (by decide) W hb hc)
  rw [hg1] at E1 ⊢
  rw [hg2] at E2 ⊢
  rw [hg3] at E3 ⊢
  rw [hg4] at E4 ⊢
  rw [hg5] at E5 ⊢
  unfold nHost at E1
  unfold nRef at E2
  unfold nAgent at E3
  unfold nCookie at E4
  unfold nLang at E5
  unfold En.v
  simp only
  clear GE GA hq hg1 hg2 hg3 hg4 hg5 hr hs hv
  go_enter Tryz.func15, Tryz.ntmps15
  go_wp2_with fail
  refine Calls.mono (CU.out _) ?_
  rintro e w1 ⟨rfl, hb_w1⟩
  have hz_w1 := hb_w1.size
  try simp at hz_w1
  obtain ⟨c1__0, f1__0⟩ := bk hb_w1 (w.heap.size) (by first | omega | (simp <;> omega))
  have c1__0_0 := c1__0 0; conv at c1__0_0 => rhs; simp [go_sem, *]
  have f1__0_0 := f1__0 0; conv at f1__0_0 => rhs; simp [go_sem, *]
  have c1__0_1 := c1__0 1; conv at c1__0_1 => rhs; simp [go_sem, *]
  have f1__0_1 := f1__0 1; conv at f1__0_1 => rhs; simp [go_sem, *]
  have c1__0_2 := c1__0 2; conv at c1__0_2 => rhs; simp [go_sem, *]
  have f1__0_2 := f1__0 2; conv at f1__0_2 => rhs; simp [go_sem, *]
  have c1__0_3 := c1__0 3; conv at c1__0_3 => rhs; simp [go_sem, *]
  have f1__0_3 := f1__0 3; conv at f1__0_3 => rhs; simp [go_sem, *]
  have c1__0_4 := c1__0 4; conv at c1__0_4 => rhs; simp [go_sem, *]
  have f1__0_4 := f1__0 4; conv at f1__0_4 => rhs; simp [go_sem, *]
  have c1__0_5 := c1__0 5; conv at c1__0_5 => rhs; simp [go_sem, *]
  have f1__0_5 := f1__0 5; conv at f1__0_5 => rhs; simp [go_sem, *]
  have c1__0_6 := c1__0 6; conv at c1__0_6 => rhs; simp [go_sem, *]
  have f1__0_6 := f1__0 6; conv at f1__0_6 => rhs; simp [go_sem, *]
  obtain ⟨c1__1, f1__1⟩ := bk hb_w1 (w.heap.size + 1) (by first | omega | (simp <;> omega))
  have c1__1_0 := c1__1 0; conv at c1__1_0 => rhs; simp [go_sem, *]
  have f1__1_0 := f1__1 0; conv at f1__1_0 => rhs; simp [go_sem, *]
  have c1__1_1 := c1__1 1; conv at c1__1_1 => rhs; simp [go_sem, *]
  have f1__1_1 := f1__1 1; conv at f1__1_1 => rhs; simp [go_sem, *]
  have c1__1_2 := c1__1 2; conv at c1__1_2 => rhs; simp [go_sem, *]
  have f1__1_2 := f1__1 2; conv at f1__1_2 => rhs; simp [go_sem, *]
  have c1__1_3 := c1__1 3; conv at c1__1_3 => rhs; simp [go_sem, *]
  have f1__1_3 := f1__1 3; conv at f1__1_3 => rhs; simp [go_sem, *]
  have c1__1_4 := c1__1 4; conv at c1__1_4 => rhs; simp [go_sem, *]
  have f1__1_4 := f1__1 4; conv at f1__1_4 => rhs; simp [go_sem, *]
  have c1__1_5 := c1__1 5; conv at c1__1_5 => rhs; simp [go_sem, *]
  have f1__1_5 := f1__1 5; conv at f1__1_5 => rhs; simp [go_sem, *]
  have HH_w1 := Lib.hid hb_w1
  have hB_w1 : Below w.heap.size w w1 := Below.trans (by (repeat (first | with_reducible exact Below.refl _ _ | with_reducible assumption | with_reducible refine Below.drew ?_ | (with_reducible refine Below.setCell ?_ ?_ _; rotate_left; (first | omega | (simp <;> omega))) | (with_reducible refine Below.alloc ?_ ?_ _; rotate_left; (first | omega | (simp <;> omega))) | exact Below.refl _ _ | assumption))) (hb_w1.mono (by first | omega | (simp <;> omega)))
  clear hb_w1 c1__0 f1__0 c1__1 f1__1
  have far_w1_w_0 := far (show w.heap.size < w1.heap.size by omega)
  have far_w1_w_1 := far (show w.heap.size + 1 < w1.heap.size by omega)
  go_wp2_with fail
  refine Calls.mono (E1.out _ (by (repeat (first | with_reducible exact Below.refl _ _ | with_reducible assumption | with_reducible refine Below.drew ?_ | (with_reducible refine Below.setCell ?_ ?_ _; rotate_left; (first | omega | (simp <;> omega))) | (with_reducible refine Below.alloc ?_ ?_ _; rotate_left; (first | omega | (simp <;> omega))) | exact Below.refl _ _ | assumption))) (by simp [go_sem, *])) ?_
  rintro e w2 ⟨rfl, hb_w2⟩
  have hz_w2 := hb_w2.size
  try simp at hz_w2
  obtain ⟨c2__0, f2__0⟩ := bk hb_w2 (w.heap.size) (by first | omega | (simp <;> omega))
  have c2__0_0 := c2__0 0; conv at c2__0_0 => rhs; simp [go_sem, *]
  have f2__0_0 := f2__0 0; conv at f2__0_0 => rhs; simp [go_sem, *]
  have c2__0_1 := c2__0 1; conv at c2__0_1 => rhs; simp [go_sem, *]
  have f2__0_1 := f2__0 1; conv at f2__0_1 => rhs; simp [go_sem, *]
  have c2__0_2 := c2__0 2; conv at c2__0_2 => rhs; simp [go_sem, *]
  have f2__0_2 := f2__0 2; conv at f2__0_2 => rhs; simp [go_sem, *]
  have c2__0_3 := c2__0 3; conv at c2__0_3 => rhs; simp [go_sem, *]
  have f2__0_3 := f2__0 3; conv at f2__0_3 => rhs; simp [go_sem, *]
  have c2__0_4 := c2__0 4; conv at c2__0_4 => rhs; simp [go_sem, *]
  have f2__0_4 := f2__0 4; conv at f2__0_4 => rhs; simp [go_sem, *]
  have c2__0_5 := c2__0 5; conv at c2__0_5 => rhs; simp [go_sem, *]
  have f2__0_5 := f2__0 5; conv at f2__0_5 => rhs; simp [go_sem, *]
  have c2__0_6 := c2__0 6; conv at c2__0_6 => rhs; simp [go_sem, *]
  have f2__0_6 := f2__0 6; conv at f2__0_6 => rhs; simp [go_sem, *]
  obtain ⟨c2__1, f2__1⟩ := bk hb_w2 (w.heap.size + 1) (by first | omega | (simp <;> omega))
  have c2__1_0 := c2__1 0; conv at c2__1_0 => rhs; simp [go_sem, *]
  have f2__1_0 := f2__1 0; conv at f2__1_0 => rhs; simp [go_sem, *]
  have c2__1_1 := c2__1 1; conv at c2__1_1 => rhs; simp [go_sem, *]
  have f2__1_1 := f2__1 1; conv at f2__1_1 => rhs; simp [go_sem, *]
  have c2__1_2 := c2__1 2; conv at c2__1_2 => rhs; simp [go_sem, *]
  have f2__1_2 := f2__1 2; conv at f2__1_2 => rhs; simp [go_sem, *]
  have c2__1_3 := c2__1 3; conv at c2__1_3 => rhs; simp [go_sem, *]
  have f2__1_3 := f2__1 3; conv at f2__1_3 => rhs; simp [go_sem, *]
  have c2__1_4 := c2__1 4; conv at c2__1_4 => rhs; simp [go_sem, *]
  have f2__1_4 := f2__1 4; conv at f2__1_4 => rhs; simp [go_sem, *]
  have c2__1_5 := c2__1 5; conv at c2__1_5 => rhs; simp [go_sem, *]
  have f2__1_5 := f2__1 5; conv at f2__1_5 => rhs; simp [go_sem, *]
  have HH_w2 := Lib.hid hb_w2
  have hB_w2 : Below w.heap.size w w2 := Below.trans (by (repeat (first | with_reducible exact Below.refl _ _ | with_reducible assumption | with_reducible refine Below.drew ?_ | (with_reducible refine Below.setCell ?_ ?_ _; rotate_left; (first | omega | (simp <;> omega))) | (with_reducible refine Below.alloc ?_ ?_ _; rotate_left; (first | omega | (simp <;> omega))) | exact Below.refl _ _ | assumption))) (hb_w2.mono (by first | omega | (simp <;> omega)))
  clear hb_w2 c2__0 f2__0 c2__1 f2__1
  try clear c1__0_0 f1__0_0 c1__0_1 f1__0_1 c1__0_2 f1__0_2 c1__0_3 f1__0_3 c1__0_4 f1__0_4 c1__0_5 f1__0_5 c1__0_6 f1__0_6 c1__1_0 f1__1_0 c1__1_1 f1__1_1 c1__1_2 f1__1_2 c1__1_3 f1__1_3 c1__1_4 f1__1_4 c1__1_5 f1__1_5 far_w1_w_0 far_w1_w_1 hB_w1
  have far_w2_w_0 := far (show w.heap.size < w2.heap.size by omega)
  have far_w2_w_1 := far (show w.heap.size + 1 < w2.heap.size by omega)
  go_wp2_with fail
  refine Calls.mono (E2.out _ (by (repeat (first | with_reducible exact Below.refl _ _ | with_reducible assumption | with_reducible refine Below.drew ?_ | (with_reducible refine Below.setCell ?_ ?_ _; rotate_left; (first | omega | (simp <;> omega))) | (with_reducible refine Below.alloc ?_ ?_ _; rotate_left; (first | omega | (simp <;> omega))) | exact Below.refl _ _ | assumption))) (by simp [go_sem, *])) ?_
  rintro e w3 ⟨rfl, hb_w3⟩
  have hz_w3 := hb_w3.size
  try simp at hz_w3
  obtain ⟨c3__0, f3__0⟩ := bk hb_w3 (w.heap.size) (by first | omega | (simp <;> omega))
  have c3__0_0 := c3__0 0; conv at c3__0_0 => rhs; simp [go_sem, *]
  have f3__0_0 := f3__0 0; conv at f3__0_0 => rhs; simp [go_sem, *]
  have c3__0_1 := c3__0 1; conv at c3__0_1 => rhs; simp [go_sem, *]
  have f3__0_1 := f3__0 1; conv at f3__0_1 => rhs; simp [go_sem, *]
  have c3__0_2 := c3__0 2; conv at c3__0_2 => rhs; simp [go_sem, *]
  have f3__0_2 := f3__0 2; conv at f3__0_2 => rhs; simp [go_sem, *]
  have c3__0_3 := c3__0 3; conv at c3__0_3 => rhs; simp [go_sem, *]
  have f3__0_3 := f3__0 3; conv at f3__0_3 => rhs; simp [go_sem, *]
  have c3__0_4 := c3__0 4; conv at c3__0_4 => rhs; simp [go_sem, *]
  have f3__0_4 := f3__0 4; conv at f3__0_4 => rhs; simp [go_sem, *]
  have c3__0_5 := c3__0 5; conv at c3__0_5 => rhs; simp [go_sem, *]
  have f3__0_5 := f3__0 5; conv at f3__0_5 => rhs; simp [go_sem, *]
  have c3__0_6 := c3__0 6; conv at c3__0_6 => rhs; simp [go_sem, *]
  have f3__0_6 := f3__0 6; conv at f3__0_6 => rhs; simp [go_sem, *]
  obtain ⟨c3__1, f3__1⟩ := bk hb_w3 (w.heap.size + 1) (by first | omega | (simp <;> omega))
  have c3__1_0 := c3__1 0; conv at c3__1_0 => rhs; simp [go_sem, *]
  have f3__1_0 := f3__1 0; conv at f3__1_0 => rhs; simp [go_sem, *]
  have c3__1_1 := c3__1 1; conv at c3__1_1 => rhs; simp [go_sem, *]
  have f3__1_1 := f3__1 1; conv at f3__1_1 => rhs; simp [go_sem, *]
  have c3__1_2 := c3__1 2; conv at c3__1_2 => rhs; simp [go_sem, *]
  have f3__1_2 := f3__1 2; conv at f3__1_2 => rhs; simp [go_sem, *]
  have c3__1_3 := c3__1 3; conv at c3__1_3 => rhs; simp [go_sem, *]
  have f3__1_3 := f3__1 3; conv at f3__1_3 => rhs; simp [go_sem, *]
  have c3__1_4 := c3__1 4; conv at c3__1_4 => rhs; simp [go_sem, *]
  have f3__1_4 := f3__1 4; conv at f3__1_4 => rhs; simp [go_sem, *]
  have c3__1_5 := c3__1 5; conv at c3__1_5 => rhs; simp [go_sem, *]
  have f3__1_5 := f3__1 5; conv at f3__1_5 => rhs; simp [go_sem, *]
  have HH_w3 := Lib.hid hb_w3
  have hB_w3 : Below w.heap.size w w3 := Below.trans (by (repeat (first | with_reducible exact Below.refl _ _ | with_reducible assumption | with_reducible refine Below.drew ?_ | (with_reducible refine Below.setCell ?_ ?_ _; rotate_left; (first | omega | (simp <;> omega))) | (with_reducible refine Below.alloc ?_ ?_ _; rotate_left; (first | omega | (simp <;> omega))) | exact Below.refl _ _ | assumption))) (hb_w3.mono (by first | omega | (simp <;> omega)))
  clear hb_w3 c3__0 f3__0 c3__1 f3__1
  try clear c2__0_0 f2__0_0 c2__0_1 f2__0_1 c2__0_2 f2__0_2 c2__0_3 f2__0_3 c2__0_4 f2__0_4 c2__0_5 f2__0_5 c2__0_6 f2__0_6 c2__1_0 f2__1_0 c2__1_1 f2__1_1 c2__1_2 f2__1_2 c2__1_3 f2__1_3 c2__1_4 f2__1_4 c2__1_5 f2__1_5 far_w2_w_0 far_w2_w_1 hB_w2
  have far_w3_w_0 := far (show w.heap.size < w3.heap.size by omega)
  have far_w3_w_1 := far (show w.heap.size + 1 < w3.heap.size by omega)
  go_wp2_with fail
  refine Calls.mono (E3.out _ (by (repeat (first | with_reducible exact Below.refl _ _ | with_reducible assumption | with_reducible refine Below.drew ?_ | (with_reducible refine Below.setCell ?_ ?_ _; rotate_left; (first | omega | (simp <;> omega))) | (with_reducible refine Below.alloc ?_ ?_ _; rotate_left; (first | omega | (simp <;> omega))) | exact Below.refl _ _ | assumption))) (by simp [go_sem, *])) ?_
  rintro e w4 ⟨rfl, hb_w4⟩
  have hz_w4 := hb_w4.size
  try simp at hz_w4
  obtain ⟨c4__0, f4__0⟩ := bk hb_w4 (w.heap.size) (by first | omega | (simp <;> omega))
  have c4__0_0 := c4__0 0; conv at c4__0_0 => rhs; simp [go_sem, *]
  have f4__0_0 := f4__0 0; conv at f4__0_0 => rhs; simp [go_sem, *]
  have c4__0_1 := c4__0 1; conv at c4__0_1 => rhs; simp [go_sem, *]
  have f4__0_1 := f4__0 1; conv at f4__0_1 => rhs; simp [go_sem, *]
  have c4__0_2 := c4__0 2; conv at c4__0_2 => rhs; simp [go_sem, *]
  have f4__0_2 := f4__0 2; conv at f4__0_2 => rhs; simp [go_sem, *]
  have c4__0_3 := c4__0 3; conv at c4__0_3 => rhs; simp [go_sem, *]
  have f4__0_3 := f4__0 3; conv at f4__0_3 => rhs; simp [go_sem, *]
  have c4__0_4 := c4__0 4; conv at c4__0_4 => rhs; simp [go_sem, *]
  have f4__0_4 := f4__0 4; conv at f4__0_4 => rhs; simp [go_sem, *]
  have c4__0_5 := c4__0 5; conv at c4__0_5 => rhs; simp [go_sem, *]
  have f4__0_5 := f4__0 5; conv at f4__0_5 => rhs; simp [go_sem, *]
  have c4__0_6 := c4__0 6; conv at c4__0_6 => rhs; simp [go_sem, *]
  have f4__0_6 := f4__0 6; conv at f4__0_6 => rhs; simp [go_sem, *]
  obtain ⟨c4__1, f4__1⟩ := bk hb_w4 (w.heap.size + 1) (by first | omega | (simp <;> omega))
  have c4__1_0 := c4__1 0; conv at c4__1_0 => rhs; simp [go_sem, *]
  have f4__1_0 := f4__1 0; conv at f4__1_0 => rhs; simp [go_sem, *]
  have c4__1_1 := c4__1 1; conv at c4__1_1 => rhs; simp [go_sem, *]
  have f4__1_1 := f4__1 1; conv at f4__1_1 => rhs; simp [go_sem, *]
  have c4__1_2 := c4__1 2; conv at c4__1_2 => rhs; simp [go_sem, *]
  have f4__1_2 := f4__1 2; conv at f4__1_2 => rhs; simp [go_sem, *]
  have c4__1_3 := c4__1 3; conv at c4__1_3 => rhs; simp [go_sem, *]
  have f4__1_3 := f4__1 3; conv at f4__1_3 => rhs; simp [go_sem, *]
  have c4__1_4 := c4__1 4; conv at c4__1_4 => rhs; simp [go_sem, *]
  have f4__1_4 := f4__1 4; conv at f4__1_4 => rhs; simp [go_sem, *]
  have c4__1_5 := c4__1 5; conv at c4__1_5 => rhs; simp [go_sem, *]
  have f4__1_5 := f4__1 5; conv at f4__1_5 => rhs; simp [go_sem, *]
  have HH_w4 := Lib.hid hb_w4
  have hB_w4 : Below w.heap.size w w4 := Below.trans (by (repeat (first | with_reducible exact Below.refl _ _ | with_reducible assumption | with_reducible refine Below.drew ?_ | (with_reducible refine Below.setCell ?_ ?_ _; rotate_left; (first | omega | (simp <;> omega))) | (with_reducible refine Below.alloc ?_ ?_ _; rotate_left; (first | omega | (simp <;> omega))) | exact Below.refl _ _ | assumption))) (hb_w4.mono (by first | omega | (simp <;> omega)))
  clear hb_w4 c4__0 f4__0 c4__1 f4__1
  try clear c3__0_0 f3__0_0 c3__0_1 f3__0_1 c3__0_2 f3__0_2 c3__0_3 f3__0_3 c3__0_4 f3__0_4 c3__0_5 f3__0_5 c3__0_6 f3__0_6 c3__1_0 f3__1_0 c3__1_1 f3__1_1 c3__1_2 f3__1_2 c3__1_3 f3__1_3 c3__1_4 f3__1_4 c3__1_5 f3__1_5 far_w3_w_0 far_w3_w_1 hB_w3
  have far_w4_w_0 := far (show w.heap.size < w4.heap.size by omega)
  have far_w4_w_1 := far (show w.heap.size + 1 < w4.heap.size by omega)
  go_wp2_with fail
  refine Calls.mono (E4.out _ (by (repeat (first | with_reducible exact Below.refl _ _ | with_reducible assumption | with_reducible refine Below.drew ?_ | (with_reducible refine Below.setCell ?_ ?_ _; rotate_left; (first | omega | (simp <;> omega))) | (with_reducible refine Below.alloc ?_ ?_ _; rotate_left; (first | omega | (simp <;> omega))) | exact Below.refl _ _ | assumption))) (by simp [go_sem, *])) ?_
  rintro e w5 ⟨rfl, hb_w5⟩
  have hz_w5 := hb_w5.size
  try simp at hz_w5
  obtain ⟨c5__0, f5__0⟩ := bk hb_w5 (w.heap.size) (by first | omega | (simp <;> omega))
  have c5__0_0 := c5__0 0; conv at c5__0_0 => rhs; simp [go_sem, *]
  have f5__0_0 := f5__0 0; conv at f5__0_0 => rhs; simp [go_sem, *]
  have c5__0_1 := c5__0 1; conv at c5__0_1 => rhs; simp [go_sem, *]
  have f5__0_1 := f5__0 1; conv at f5__0_1 => rhs; simp [go_sem, *]
  have c5__0_2 := c5__0 2; conv at c5__0_2 => rhs; simp [go_sem, *]
  have f5__0_2 := f5__0 2; conv at f5__0_2 => rhs; simp [go_sem, *]
  have c5__0_3 := c5__0 3; conv at c5__0_3 => rhs; simp [go_sem, *]
  have f5__0_3 := f5__0 3; conv at f5__0_3 => rhs; simp [go_sem, *]
  have c5__0_4 := c5__0 4; conv at c5__0_4 => rhs; simp [go_sem, *]
  have f5__0_4 := f5__0 4; conv at f5__0_4 => rhs; simp [go_sem, *]
  have c5__0_5 := c5__0 5; conv at c5__0_5 => rhs; simp [go_sem, *]
  have f5__0_5 := f5__0 5; conv at f5__0_5 => rhs; simp [go_sem, *]
  have c5__0_6 := c5__0 6; conv at c5__0_6 => rhs; simp [go_sem, *]
  have f5__0_6 := f5__0 6; conv at f5__0_6 => rhs; simp [go_sem, *]
  obtain ⟨c5__1, f5__1⟩ := bk hb_w5 (w.heap.size + 1) (by first | omega | (simp <;> omega))
  have c5__1_0 := c5__1 0; conv at c5__1_0 => rhs; simp [go_sem, *]
  have f5__1_0 := f5__1 0; conv at f5__1_0 => rhs; simp [go_sem, *]
  have c5__1_1 := c5__1 1; conv at c5__1_1 => rhs; simp [go_sem, *]
  have f5__1_1 := f5__1 1; conv at f5__1_1 => rhs; simp [go_sem, *]
  have c5__1_2 := c5__1 2; conv at c5__1_2 => rhs; simp [go_sem, *]
  have f5__1_2 := f5__1 2; conv at f5__1_2 => rhs; simp [go_sem, *]
  have c5__1_3 := c5__1 3; conv at c5__1_3 => rhs; simp [go_sem, *]
  have f5__1_3 := f5__1 3; conv at f5__1_3 => rhs; simp [go_sem, *]
  have c5__1_4 := c5__1 4; conv at c5__1_4 => rhs; simp [go_sem, *]
  have f5__1_4 := f5__1 4; conv at f5__1_4 => rhs; simp [go_sem, *]
  have c5__1_5 := c5__1 5; conv at c5__1_5 => rhs; simp [go_sem, *]
  have f5__1_5 := f5__1 5; conv at f5__1_5 => rhs; simp [go_sem, *]
  have HH_w5 := Lib.hid hb_w5
  have hB_w5 : Below w.heap.size w w5 := Below.trans (by (repeat (first | with_reducible exact Below.refl _ _ | with_reducible assumption | with_reducible refine Below.drew ?_ | (with_reducible refine Below.setCell ?_ ?_ _; rotate_left; (first | omega | (simp <;> omega))) | (with_reducible refine Below.alloc ?_ ?_ _; rotate_left; (first | omega | (simp <;> omega))) | exact Below.refl _ _ | assumption))) (hb_w5.mono (by first | omega | (simp <;> omega)))
  clear hb_w5 c5__0 f5__0 c5__1 f5__1
  try clear c4__0_0 f4__0_0 c4__0_1 f4__0_1 c4__0_2 f4__0_2 c4__0_3 f4__0_3 c4__0_4 f4__0_4 c4__0_5 f4__0_5 c4__0_6 f4__0_6 c4__1_0 f4__1_0 c4__1_1 f4__1_1 c4__1_2 f4__1_2 c4__1_3 f4__1_3 c4__1_4 f4__1_4 c4__1_5 f4__1_5 far_w4_w_0 far_w4_w_1 hB_w4
  have far_w5_w_0 := far (show w.heap.size < w5.heap.size by omega)
  have far_w5_w_1 := far (show w.heap.size + 1 < w5.heap.size by omega)
  go_wp2_with fail
  refine Calls.mono (E5.out _ (by (repeat (first | with_reducible exact Below.refl _ _ | with_reducible assumption | with_reducible refine Below.drew ?_ | (with_reducible refine Below.setCell ?_ ?_ _; rotate_left; (first | omega | (simp <;> omega))) | (with_reducible refine Below.alloc ?_ ?_ _; rotate_left; (first | omega | (simp <;> omega))) | exact Below.refl _ _ | assumption))) (by simp [go_sem, *])) ?_
  rintro e w6 ⟨rfl, hb_w6⟩
  have hz_w6 := hb_w6.size
  try simp at hz_w6
  obtain ⟨c6__0, f6__0⟩ := bk hb_w6 (w.heap.size) (by first | omega | (simp <;> omega))
  have c6__0_0 := c6__0 0; conv at c6__0_0 => rhs; simp [go_sem, *]
  have f6__0_0 := f6__0 0; conv at f6__0_0 => rhs; simp [go_sem, *]
  have c6__0_1 := c6__0 1; conv at c6__0_1 => rhs; simp [go_sem, *]
  have f6__0_1 := f6__0 1; conv at f6__0_1 => rhs; simp [go_sem, *]
  have c6__0_2 := c6__0 2; conv at c6__0_2 => rhs; simp [go_sem, *]
  have f6__0_2 := f6__0 2; conv at f6__0_2 => rhs; simp [go_sem, *]
  have c6__0_3 := c6__0 3; conv at c6__0_3 => rhs; simp [go_sem, *]
  have f6__0_3 := f6__0 3; conv at f6__0_3 => rhs; simp [go_sem, *]
  have c6__0_4 := c6__0 4; conv at c6__0_4 => rhs; simp [go_sem, *]
  have f6__0_4 := f6__0 4; conv at f6__0_4 => rhs; simp [go_sem, *]
  have c6__0_5 := c6__0 5; conv at c6__0_5 => rhs; simp [go_sem, *]
  have f6__0_5 := f6__0 5; conv at f6__0_5 => rhs; simp [go_sem, *]
  have c6__0_6 := c6__0 6; conv at c6__0_6 => rhs; simp [go_sem, *]
  have f6__0_6 := f6__0 6; conv at f6__0_6 => rhs; simp [go_sem, *]
  obtain ⟨c6__1, f6__1⟩ := bk hb_w6 (w.heap.size + 1) (by first | omega | (simp <;> omega))
  have c6__1_0 := c6__1 0; conv at c6__1_0 => rhs; simp [go_sem, *]
  have f6__1_0 := f6__1 0; conv at f6__1_0 => rhs; simp [go_sem, *]
  have c6__1_1 := c6__1 1; conv at c6__1_1 => rhs; simp [go_sem, *]
  have f6__1_1 := f6__1 1; conv at f6__1_1 => rhs; simp [go_sem, *]
  have c6__1_2 := c6__1 2; conv at c6__1_2 => rhs; simp [go_sem, *]
  have f6__1_2 := f6__1 2; conv at f6__1_2 => rhs; simp [go_sem, *]
  have c6__1_3 := c6__1 3; conv at c6__1_3 => rhs; simp [go_sem, *]
  have f6__1_3 := f6__1 3; conv at f6__1_3 => rhs; simp [go_sem, *]
  have c6__1_4 := c6__1 4; conv at c6__1_4 => rhs; simp [go_sem, *]
  have f6__1_4 := f6__1 4; conv at f6__1_4 => rhs; simp [go_sem, *]
  have c6__1_5 := c6__1 5; conv at c6__1_5 => rhs; simp [go_sem, *]
  have f6__1_5 := f6__1 5; conv at f6__1_5 => rhs; simp [go_sem, *]
  have HH_w6 := Lib.hid hb_w6
  have hB_w6 : Below w.heap.size w w6 := Below.trans (by (repeat (first | with_reducible exact Below.refl _ _ | with_reducible assumption | with_reducible refine Below.drew ?_ | (with_reducible refine Below.setCell ?_ ?_ _; rotate_left; (first | omega | (simp <;> omega))) | (with_reducible refine Below.alloc ?_ ?_ _; rotate_left; (first | omega | (simp <;> omega))) | exact Below.refl _ _ | assumption))) (hb_w6.mono (by first | omega | (simp <;> omega)))
  clear hb_w6 c6__0 f6__0 c6__1 f6__1
  try clear c5__0_0 f5__0_0 c5__0_1 f5__0_1 c5__0_2 f5__0_2 c5__0_3 f5__0_3 c5__0_4 f5__0_4 c5__0_5 f5__0_5 c5__0_6 f5__0_6 c5__1_0 f5__1_0 c5__1_1 f5__1_1 c5__1_2 f5__1_2 c5__1_3 f5__1_3 c5__1_4 f5__1_4 c5__1_5 f5__1_5 far_w5_w_0 far_w5_w_1 hB_w5
  have far_w6_w_0 := far (show w.heap.size < w6.heap.size by omega)
  have far_w6_w_1 := far (show w.heap.size + 1 < w6.heap.size by omega)
  go_wp2
  refine bodyPost_ret (v := .agg #[.string (S g1), .string (S g2), .string (S g3), .string (S g4), .string (S g5), .string (S q2)]) (by simp [results, Tryz.results15, go_sem, *]) rfl ⟨rfl, ?_⟩
  (repeat (first | with_reducible exact Below.refl _ _ | with_reducible assumption | with_reducible refine Below.drew ?_ | (with_reducible refine Below.setCell ?_ ?_ _; rotate_left; (first | omega | (simp <;> omega))) | (with_reducible refine Below.alloc ?_ ?_ _; rotate_left; (first | omega | (simp <;> omega))) | exact Below.refl _ _ | assumption))

theorem docFirst (v : Value) (F : List FldT) (n : List UInt8) (hn : n.length ≤ 1000) (W : World) (hr : ReadsFT W v F) (hs : ∀ f ∈ F, SmallT f) (hl : F.length ≤ 1000) :
    Calls Tryz.prog 42 #[v, .string (S n)] W fun e w' => e = .returned (.string (S (((namedL F n).map (·.2)).headD []))) ∧ Below W.heap.size W w' := by
  have GE := Lib.hid (refAllT v F n (by omega) W hr hs (by omega))
  obtain ⟨xs, hxs⟩ : ∃ xs, (namedL F n).map (·.2) = xs := ⟨_, rfl⟩
  rw [hxs] at GE ⊢
  clear hr hs hxs
  cases xs with
  | nil =>
    go_enter Tryz.func42, Tryz.ntmps42
    go_wp2_with (go_at_call 44; refine Calls.mono GE.out ?_; rintro e w1 ⟨v1, rfl, ho1, hb1⟩; have HB1 := Lib.hid hb1; obtain ⟨ao3, cap3, rfl, k1, k2, k3⟩ := ho1.reads; clear hb1 ho1 k3)
    go_ret
    exact ⟨rfl, HB1.out⟩
  | cons x r =>
    have hx0 : ((((x :: r).length : Nat) : Int) == 0) = false := by simp only [List.length_cons, beq_eq_false_iff_ne, ne_eq]; omega
    have hx1 : 0 < (((x :: r).length : Nat) : Int) := by simp only [List.length_cons]; omega
    go_enter Tryz.func42, Tryz.ntmps42
    go_wp2_with (go_at_call 44; refine Calls.mono GE.out ?_; rintro e w1 ⟨v1, rfl, ho1, hb1⟩; have HB1 := Lib.hid hb1; obtain ⟨ao3, cap3, rfl, k1, k2, k3⟩ := ho1.reads; obtain ⟨b3, off3, rfl, hb3, k4⟩ := k3 (by simp); have e3 := k4 0 (by simp); simp only [List.getElem_cons_zero, Nat.add_zero] at e3; clear hb1 ho1 k3 k4)
    go_ret
    exact ⟨rfl, HB1.out⟩

set_option maxHeartbeats 3200000 in
set_option maxRecDepth 100000 in
theorem docOf (m t r bo : List UInt8) (c n : Int) (ao : Option Addr) (cap : Nat) (F : List FldT) (w : World) (hr : ReadsFT w (.slice ao F.length cap) F) (hs : ∀ f ∈ F, SmallT f) (hv : ∀ f ∈ F, f.2.length ≤ 1048576) (hl : F.length ≤ 1000) (ht : t.length ≤ 1048576) :
    Calls Tryz.prog 16 #[.agg #[.string (S m), .string (S t), .int .i64 c, .string (S r), .int .i64 n, .slice ao F.length cap, .string (S bo)]] w fun e w' => e = .returned (ofE t F).v ∧ Below w.heap.size w w' := by
  have FI := Lib.hid (fun (k : List UInt8) (hk : k.length ≤ 1000) W (hb : Below w.heap.size w W) => docFirst _ F k hk W (hr.below hb) hs hl)
  have AL := Lib.hid (fun (k : List UInt8) (hk : k.length ≤ 1000) W (hb : Below w.heap.size w W) => refAllT _ F k (by omega) W (hr.below hb) hs (by omega))
  have hvl : ∀ k, ∀ x ∈ (namedL F k).map (·.2), x.length ≤ 1048576 := fun k x hx => by
    obtain ⟨f, hf, rfl⟩ := List.mem_map.1 hx
    exact hv f (List.mem_filter.1 hf).1
  have hnl : ∀ k, ((namedL F k).map (·.2)).length ≤ 1000 := fun k => by rw [List.length_map]; exact Nat.le_trans (List.length_filter_le _ _) hl
  have JO := Lib.hid (fun (k : List UInt8) v W (h : Reads W v ((namedL F k).map (·.2))) => refJoinedT v _ W h (hvl k) (hnl k))
  have q0 := qry_cons
  unfold ofE
  rw [getV_allT, getV_allT, getV_allT]
  unfold joinedLT
  rw [low_named (a := nHost) (b := [104, 111, 115, 116]) (by decide), low_named (a := nRef) (b := [114, 101, 102, 101, 114, 101, 114]) (by decide), low_named (a := nAgent) (b := [117, 115, 101, 114, 45, 97, 103, 101, 110, 116]) (by decide), low_named (a := nCookie) (b := [99, 111, 111, 107, 105, 101]) (by decide), low_named (a := nLang) (b := [97, 99, 99, 101, 112, 116, 45, 108, 97, 110, 103, 117, 97, 103, 101]) (by decide)]
  have E1 := Lib.hid (fun W hb => FI.out [104, 111, 115, 116] (by decide) W hb)
  have E2 := Lib.hid (fun W hb => FI.out [114, 101, 102, 101, 114, 101, 114] (by decide) W hb)
  have E3 := Lib.hid (fun W hb => FI.out [117, 115, 101, 114, 45, 97, 103, 101, 110, 116] (by decide) W hb)
  have A4 := Lib.hid (fun W hb => AL.out [99, 111, 111, 107, 105, 101] (by decide) W hb)
  have A5 := Lib.hid (fun W hb => AL.out [97, 99, 99, 101, 112, 116, 45, 108, 97, 110, 103, 117, 97, 103, 101] (by decide) W hb)
  have J4 := Lib.hid (fun v W h => JO.out [99, 111, 111, 107, 105, 101] v W h)
  have J5 := Lib.hid (fun v W h => JO.out [97, 99, 99, 101, 112, 116, 45, 108, 97, 110, 103, 117, 97, 103, 101] v W h)
  obtain ⟨g1, hg1⟩ : ∃ x, ((namedL F [104, 111, 115, 116]).map (·.2)).headD [] = x := ⟨_, rfl⟩
  obtain ⟨g2, hg2⟩ : ∃ x, ((namedL F [114, 101, 102, 101, 114, 101, 114]).map (·.2)).headD [] = x := ⟨_, rfl⟩
  obtain ⟨g3, hg3⟩ : ∃ x, ((namedL F [117, 115, 101, 114, 45, 97, 103, 101, 110, 116]).map (·.2)).headD [] = x := ⟨_, rfl⟩
  obtain ⟨x4, hx4⟩ : ∃ x, (namedL F [99, 111, 111, 107, 105, 101]).map (·.2) = x := ⟨_, rfl⟩
  obtain ⟨x5, hx5⟩ : ∃ x, (namedL F [97, 99, 99, 101, 112, 116, 45, 108, 97, 110, 103, 117, 97, 103, 101]).map (·.2) = x := ⟨_, rfl⟩
  rw [hg1] at E1 ⊢
  rw [hg2] at E2 ⊢
  rw [hg3] at E3 ⊢
  rw [hx4] at A4 J4 ⊢
  rw [hx5] at A5 J5 ⊢
  obtain ⟨g4, hg4⟩ : ∃ x, Lib.join x4 [44, 32] = x := ⟨_, rfl⟩
  obtain ⟨g5, hg5⟩ : ∃ x, Lib.join x5 [44, 32] = x := ⟨_, rfl⟩
  rw [hg4] at J4 ⊢
  rw [hg5] at J5 ⊢
  obtain ⟨Q, hQ⟩ : ∃ Q, (cut1 t 63).2.1 = Q := ⟨_, rfl⟩
  have HQ := Lib.hid hQ
  have QC := Lib.hid (show ∀ (k : Nat) (h : k < t.length), (cut1 (t.drop k) 63).2.1 = if t[k] = 63 then t.drop (k + 1) else (cut1 (t.drop (k + 1)) 63).2.1 from fun k h => by rw [List.drop_eq_getElem_cons h, q0])
  have hti : (t.length : Int) ≤ 1048576 := by omega
  rw [hQ]
  unfold En.v
  simp only
  clear FI AL JO hg1 hg2 hg3 hg4 hg5 hx4 hx5 hr hs hv hvl hnl hQ q0
  go_enter Tryz.func16, Tryz.ntmps16
  go_wp2
  try simp only [mk_S]
  go_loop [3, 4] (fun qv iv => ∃ k : Nat, iv = .int .i64 ((k : Int) - 1) ∧ k ≤ t.length ∧ qv = .string (S (cut1 (t.drop k) 63).2.1)) (fun _ iv => (intOf iv + 1).toNat)
  case atStart => exact ⟨t.length, rfl, Nat.le_refl _, by rw [List.drop_length]; rfl⟩
  case round =>
    obtain ⟨k, rfl, hk, rfl⟩ := hrel
    by_cases hk0 : k = 0
    · subst hk0
      rw [List.drop_zero, HQ.out]
      go_wp2_with fail
      refine Calls.mono (E1.out _ (by (repeat (first | with_reducible exact Below.refl _ _ | with_reducible assumption | with_reducible refine Below.drew ?_ | (with_reducible refine Below.setCell ?_ ?_ _; rotate_left; (first | omega | (simp <;> omega))) | (with_reducible refine Below.alloc ?_ ?_ _; rotate_left; (first | omega | (simp <;> omega))) | exact Below.refl _ _ | assumption)))) ?_
      rintro e w2 ⟨rfl, hb_w2⟩
      have hz_w2 := hb_w2.size
      try simp at hz_w2
      obtain ⟨c2__0, f2__0⟩ := bk hb_w2 (w.heap.size) (by first | omega | (simp <;> omega))
      have c2__0_0 := c2__0 0; conv at c2__0_0 => rhs; simp [go_sem, *]
      have f2__0_0 := f2__0 0; conv at f2__0_0 => rhs; simp [go_sem, *]
      have c2__0_1 := c2__0 1; conv at c2__0_1 => rhs; simp [go_sem, *]
      have f2__0_1 := f2__0 1; conv at f2__0_1 => rhs; simp [go_sem, *]
      have c2__0_2 := c2__0 2; conv at c2__0_2 => rhs; simp [go_sem, *]
      have f2__0_2 := f2__0 2; conv at f2__0_2 => rhs; simp [go_sem, *]
      have c2__0_3 := c2__0 3; conv at c2__0_3 => rhs; simp [go_sem, *]
      have f2__0_3 := f2__0 3; conv at f2__0_3 => rhs; simp [go_sem, *]
      have c2__0_4 := c2__0 4; conv at c2__0_4 => rhs; simp [go_sem, *]
      have f2__0_4 := f2__0 4; conv at f2__0_4 => rhs; simp [go_sem, *]
      have c2__0_5 := c2__0 5; conv at c2__0_5 => rhs; simp [go_sem, *]
      have f2__0_5 := f2__0 5; conv at f2__0_5 => rhs; simp [go_sem, *]
      have c2__0_6 := c2__0 6; conv at c2__0_6 => rhs; simp [go_sem, *]
      have f2__0_6 := f2__0 6; conv at f2__0_6 => rhs; simp [go_sem, *]
      obtain ⟨c2__1, f2__1⟩ := bk hb_w2 (w.heap.size + 1) (by first | omega | (simp <;> omega))
      have c2__1_0 := c2__1 0; conv at c2__1_0 => rhs; simp [go_sem, *]
      have f2__1_0 := f2__1 0; conv at f2__1_0 => rhs; simp [go_sem, *]
      have c2__1_1 := c2__1 1; conv at c2__1_1 => rhs; simp [go_sem, *]
      have f2__1_1 := f2__1 1; conv at f2__1_1 => rhs; simp [go_sem, *]
      have c2__1_2 := c2__1 2; conv at c2__1_2 => rhs; simp [go_sem, *]
      have f2__1_2 := f2__1 2; conv at f2__1_2 => rhs; simp [go_sem, *]
      have c2__1_3 := c2__1 3; conv at c2__1_3 => rhs; simp [go_sem, *]
      have f2__1_3 := f2__1 3; conv at f2__1_3 => rhs; simp [go_sem, *]
      have c2__1_4 := c2__1 4; conv at c2__1_4 => rhs; simp [go_sem, *]
      have f2__1_4 := f2__1 4; conv at f2__1_4 => rhs; simp [go_sem, *]
      have c2__1_5 := c2__1 5; conv at c2__1_5 => rhs; simp [go_sem, *]
      have f2__1_5 := f2__1 5; conv at f2__1_5 => rhs; simp [go_sem, *]
      have HH_w2 := Lib.hid hb_w2
      have hB_w2 : Below w.heap.size w w2 := Below.trans (by (repeat (first | with_reducible exact Below.refl _ _ | with_reducible assumption | with_reducible refine Below.drew ?_ | (with_reducible refine Below.setCell ?_ ?_ _; rotate_left; (first | omega | (simp <;> omega))) | (with_reducible refine Below.alloc ?_ ?_ _; rotate_left; (first | omega | (simp <;> omega))) | exact Below.refl _ _ | assumption))) (hb_w2.mono (by first | omega | (simp <;> omega)))
      clear hb_w2 c2__0 f2__0 c2__1 f2__1
      have far_w2_w_0 := far (show w.heap.size < w2.heap.size by omega)
      have far_w2_w_1 := far (show w.heap.size + 1 < w2.heap.size by omega)
      go_wp2_with fail
      refine Calls.mono (E2.out _ (by (repeat (first | with_reducible exact Below.refl _ _ | with_reducible assumption | with_reducible refine Below.drew ?_ | (with_reducible refine Below.setCell ?_ ?_ _; rotate_left; (first | omega | (simp <;> omega))) | (with_reducible refine Below.alloc ?_ ?_ _; rotate_left; (first | omega | (simp <;> omega))) | exact Below.refl _ _ | assumption)))) ?_
      rintro e w3 ⟨rfl, hb_w3⟩
      have hz_w3 := hb_w3.size
      try simp at hz_w3
      obtain ⟨c3__0, f3__0⟩ := bk hb_w3 (w.heap.size) (by first | omega | (simp <;> omega))
      have c3__0_0 := c3__0 0; conv at c3__0_0 => rhs; simp [go_sem, *]
      have f3__0_0 := f3__0 0; conv at f3__0_0 => rhs; simp [go_sem, *]
      have c3__0_1 := c3__0 1; conv at c3__0_1 => rhs; simp [go_sem, *]
      have f3__0_1 := f3__0 1; conv at f3__0_1 => rhs; simp [go_sem, *]
      have c3__0_2 := c3__0 2; conv at c3__0_2 => rhs; simp [go_sem, *]
      have f3__0_2 := f3__0 2; conv at f3__0_2 => rhs; simp [go_sem, *]
      have c3__0_3 := c3__0 3; conv at c3__0_3 => rhs; simp [go_sem, *]
      have f3__0_3 := f3__0 3; conv at f3__0_3 => rhs; simp [go_sem, *]
      have c3__0_4 := c3__0 4; conv at c3__0_4 => rhs; simp [go_sem, *]
      have f3__0_4 := f3__0 4; conv at f3__0_4 => rhs; simp [go_sem, *]
      have c3__0_5 := c3__0 5; conv at c3__0_5 => rhs; simp [go_sem, *]
      have f3__0_5 := f3__0 5; conv at f3__0_5 => rhs; simp [go_sem, *]
      have c3__0_6 := c3__0 6; conv at c3__0_6 => rhs; simp [go_sem, *]
      have f3__0_6 := f3__0 6; conv at f3__0_6 => rhs; simp [go_sem, *]
      obtain ⟨c3__1, f3__1⟩ := bk hb_w3 (w.heap.size + 1) (by first | omega | (simp <;> omega))
      have c3__1_0 := c3__1 0; conv at c3__1_0 => rhs; simp [go_sem, *]
      have f3__1_0 := f3__1 0; conv at f3__1_0 => rhs; simp [go_sem, *]
      have c3__1_1 := c3__1 1; conv at c3__1_1 => rhs; simp [go_sem, *]
      have f3__1_1 := f3__1 1; conv at f3__1_1 => rhs; simp [go_sem, *]
      have c3__1_2 := c3__1 2; conv at c3__1_2 => rhs; simp [go_sem, *]
      have f3__1_2 := f3__1 2; conv at f3__1_2 => rhs; simp [go_sem, *]
      have c3__1_3 := c3__1 3; conv at c3__1_3 => rhs; simp [go_sem, *]
      have f3__1_3 := f3__1 3; conv at f3__1_3 => rhs; simp [go_sem, *]
      have c3__1_4 := c3__1 4; conv at c3__1_4 => rhs; simp [go_sem, *]
      have f3__1_4 := f3__1 4; conv at f3__1_4 => rhs; simp [go_sem, *]
      have c3__1_5 := c3__1 5; conv at c3__1_5 => rhs; simp [go_sem, *]
      have f3__1_5 := f3__1 5; conv at f3__1_5 => rhs; simp [go_sem, *]
      have HH_w3 := Lib.hid hb_w3
      have hB_w3 : Below w.heap.size w w3 := Below.trans (by (repeat (first | with_reducible exact Below.refl _ _ | with_reducible assumption | with_reducible refine Below.drew ?_ | (with_reducible refine Below.setCell ?_ ?_ _; rotate_left; (first | omega | (simp <;> omega))) | (with_reducible refine Below.alloc ?_ ?_ _; rotate_left; (first | omega | (simp <;> omega))) | exact Below.refl _ _ | assumption))) (hb_w3.mono (by first | omega | (simp <;> omega)))
      clear hb_w3 c3__0 f3__0 c3__1 f3__1
      try clear c2__0_0 f2__0_0 c2__0_1 f2__0_1 c2__0_2 f2__0_2 c2__0_3 f2__0_3 c2__0_4 f2__0_4 c2__0_5 f2__0_5 c2__0_6 f2__0_6 c2__1_0 f2__1_0 c2__1_1 f2__1_1 c2__1_2 f2__1_2 c2__1_3 f2__1_3 c2__1_4 f2__1_4 c2__1_5 f2__1_5 far_w2_w_0 far_w2_w_1 hB_w2
      have far_w3_w_0 := far (show w.heap.size < w3.heap.size by omega)
      have far_w3_w_1 := far (show w.heap.size + 1 < w3.heap.size by omega)
      go_wp2_with fail
      refine Calls.mono (E3.out _ (by (repeat (first | with_reducible exact Below.refl _ _ | with_reducible assumption | with_reducible refine Below.drew ?_ | (with_reducible refine Below.setCell ?_ ?_ _; rotate_left; (first | omega | (simp <;> omega))) | (with_reducible refine Below.alloc ?_ ?_ _; rotate_left; (first | omega | (simp <;> omega))) | exact Below.refl _ _ | assumption)))) ?_
      rintro e w4 ⟨rfl, hb_w4⟩
      have hz_w4 := hb_w4.size
      try simp at hz_w4
      obtain ⟨c4__0, f4__0⟩ := bk hb_w4 (w.heap.size) (by first | omega | (simp <;> omega))
      have c4__0_0 := c4__0 0; conv at c4__0_0 => rhs; simp [go_sem, *]
      have f4__0_0 := f4__0 0; conv at f4__0_0 => rhs; simp [go_sem, *]
      have c4__0_1 := c4__0 1; conv at c4__0_1 => rhs; simp [go_sem, *]
      have f4__0_1 := f4__0 1; conv at f4__0_1 => rhs; simp [go_sem, *]
      have c4__0_2 := c4__0 2; conv at c4__0_2 => rhs; simp [go_sem, *]
      have f4__0_2 := f4__0 2; conv at f4__0_2 => rhs; simp [go_sem, *]
      have c4__0_3 := c4__0 3; conv at c4__0_3 => rhs; simp [go_sem, *]
      have f4__0_3 := f4__0 3; conv at f4__0_3 => rhs; simp [go_sem, *]
      have c4__0_4 := c4__0 4; conv at c4__0_4 => rhs; simp [go_sem, *]
      have f4__0_4 := f4__0 4; conv at f4__0_4 => rhs; simp [go_sem, *]
      have c4__0_5 := c4__0 5; conv at c4__0_5 => rhs; simp [go_sem, *]
      have f4__0_5 := f4__0 5; conv at f4__0_5 => rhs; simp [go_sem, *]
      have c4__0_6 := c4__0 6; conv at c4__0_6 => rhs; simp [go_sem, *]
      have f4__0_6 := f4__0 6; conv at f4__0_6 => rhs; simp [go_sem, *]
      obtain ⟨c4__1, f4__1⟩ := bk hb_w4 (w.heap.size + 1) (by first | omega | (simp <;> omega))
      have c4__1_0 := c4__1 0; conv at c4__1_0 => rhs; simp [go_sem, *]
      have f4__1_0 := f4__1 0; conv at f4__1_0 => rhs; simp [go_sem, *]
      have c4__1_1 := c4__1 1; conv at c4__1_1 => rhs; simp [go_sem, *]
      have f4__1_1 := f4__1 1; conv at f4__1_1 => rhs; simp [go_sem, *]
      have c4__1_2 := c4__1 2; conv at c4__1_2 => rhs; simp [go_sem, *]
      have f4__1_2 := f4__1 2; conv at f4__1_2 => rhs; simp [go_sem, *]
      have c4__1_3 := c4__1 3; conv at c4__1_3 => rhs; simp [go_sem, *]
      have f4__1_3 := f4__1 3; conv at f4__1_3 => rhs; simp [go_sem, *]
      have c4__1_4 := c4__1 4; conv at c4__1_4 => rhs; simp [go_sem, *]
      have f4__1_4 := f4__1 4; conv at f4__1_4 => rhs; simp [go_sem, *]
      have c4__1_5 := c4__1 5; conv at c4__1_5 => rhs; simp [go_sem, *]
      have f4__1_5 := f4__1 5; conv at f4__1_5 => rhs; simp [go_sem, *]
      have HH_w4 := Lib.hid hb_w4
      have hB_w4 : Below w.heap.size w w4 := Below.trans (by (repeat (first | with_reducible exact Below.refl _ _ | with_reducible assumption | with_reducible refine Below.drew ?_ | (with_reducible refine Below.setCell ?_ ?_ _; rotate_left; (first | omega | (simp <;> omega))) | (with_reducible refine Below.alloc ?_ ?_ _; rotate_left; (first | omega | (simp <;> omega))) | exact Below.refl _ _ | assumption))) (hb_w4.mono (by first | omega | (simp <;> omega)))
      clear hb_w4 c4__0 f4__0 c4__1 f4__1
      try clear c3__0_0 f3__0_0 c3__0_1 f3__0_1 c3__0_2 f3__0_2 c3__0_3 f3__0_3 c3__0_4 f3__0_4 c3__0_5 f3__0_5 c3__0_6 f3__0_6 c3__1_0 f3__1_0 c3__1_1 f3__1_1 c3__1_2 f3__1_2 c3__1_3 f3__1_3 c3__1_4 f3__1_4 c3__1_5 f3__1_5 far_w3_w_0 far_w3_w_1 hB_w3
      have far_w4_w_0 := far (show w.heap.size < w4.heap.size by omega)
      have far_w4_w_1 := far (show w.heap.size + 1 < w4.heap.size by omega)
      go_wp2_with fail
      refine Calls.mono (A4.out _ (by (repeat (first | with_reducible exact Below.refl _ _ | with_reducible assumption | with_reducible refine Below.drew ?_ | (with_reducible refine Below.setCell ?_ ?_ _; rotate_left; (first | omega | (simp <;> omega))) | (with_reducible refine Below.alloc ?_ ?_ _; rotate_left; (first | omega | (simp <;> omega))) | exact Below.refl _ _ | assumption)))) ?_
      rintro e w5 ⟨v5, rfl, ho5, hb_w5⟩
      have hz_w5 := hb_w5.size
      try simp at hz_w5
      obtain ⟨c5__0, f5__0⟩ := bk hb_w5 (w.heap.size) (by first | omega | (simp <;> omega))
      have c5__0_0 := c5__0 0; conv at c5__0_0 => rhs; simp [go_sem, *]
      have f5__0_0 := f5__0 0; conv at f5__0_0 => rhs; simp [go_sem, *]
      have c5__0_1 := c5__0 1; conv at c5__0_1 => rhs; simp [go_sem, *]
      have f5__0_1 := f5__0 1; conv at f5__0_1 => rhs; simp [go_sem, *]
      have c5__0_2 := c5__0 2; conv at c5__0_2 => rhs; simp [go_sem, *]
      have f5__0_2 := f5__0 2; conv at f5__0_2 => rhs; simp [go_sem, *]
      have c5__0_3 := c5__0 3; conv at c5__0_3 => rhs; simp [go_sem, *]
      have f5__0_3 := f5__0 3; conv at f5__0_3 => rhs; simp [go_sem, *]
      have c5__0_4 := c5__0 4; conv at c5__0_4 => rhs; simp [go_sem, *]
      have f5__0_4 := f5__0 4; conv at f5__0_4 => rhs; simp [go_sem, *]
      have c5__0_5 := c5__0 5; conv at c5__0_5 => rhs; simp [go_sem, *]
      have f5__0_5 := f5__0 5; conv at f5__0_5 => rhs; simp [go_sem, *]
      have c5__0_6 := c5__0 6; conv at c5__0_6 => rhs; simp [go_sem, *]
      have f5__0_6 := f5__0 6; conv at f5__0_6 => rhs; simp [go_sem, *]
      obtain ⟨c5__1, f5__1⟩ := bk hb_w5 (w.heap.size + 1) (by first | omega | (simp <;> omega))
      have c5__1_0 := c5__1 0; conv at c5__1_0 => rhs; simp [go_sem, *]
      have f5__1_0 := f5__1 0; conv at f5__1_0 => rhs; simp [go_sem, *]
      have c5__1_1 := c5__1 1; conv at c5__1_1 => rhs; simp [go_sem, *]
      have f5__1_1 := f5__1 1; conv at f5__1_1 => rhs; simp [go_sem, *]
      have c5__1_2 := c5__1 2; conv at c5__1_2 => rhs; simp [go_sem, *]
      have f5__1_2 := f5__1 2; conv at f5__1_2 => rhs; simp [go_sem, *]
      have c5__1_3 := c5__1 3; conv at c5__1_3 => rhs; simp [go_sem, *]
      have f5__1_3 := f5__1 3; conv at f5__1_3 => rhs; simp [go_sem, *]
      have c5__1_4 := c5__1 4; conv at c5__1_4 => rhs; simp [go_sem, *]
      have f5__1_4 := f5__1 4; conv at f5__1_4 => rhs; simp [go_sem, *]
      have c5__1_5 := c5__1 5; conv at c5__1_5 => rhs; simp [go_sem, *]
      have f5__1_5 := f5__1 5; conv at f5__1_5 => rhs; simp [go_sem, *]
      have HH_w5 := Lib.hid hb_w5
      have hB_w5 : Below w.heap.size w w5 := Below.trans (by (repeat (first | with_reducible exact Below.refl _ _ | with_reducible assumption | with_reducible refine Below.drew ?_ | (with_reducible refine Below.setCell ?_ ?_ _; rotate_left; (first | omega | (simp <;> omega))) | (with_reducible refine Below.alloc ?_ ?_ _; rotate_left; (first | omega | (simp <;> omega))) | exact Below.refl _ _ | assumption))) (hb_w5.mono (by first | omega | (simp <;> omega)))
      clear hb_w5 c5__0 f5__0 c5__1 f5__1
      try clear c4__0_0 f4__0_0 c4__0_1 f4__0_1 c4__0_2 f4__0_2 c4__0_3 f4__0_3 c4__0_4 f4__0_4 c4__0_5 f4__0_5 c4__0_6 f4__0_6 c4__1_0 f4__1_0 c4__1_1 f4__1_1 c4__1_2 f4__1_2 c4__1_3 f4__1_3 c4__1_4 f4__1_4 c4__1_5 f4__1_5 far_w4_w_0 far_w4_w_1 hB_w4
      have far_w5_w_0 := far (show w.heap.size < w5.heap.size by omega)
      have far_w5_w_1 := far (show w.heap.size + 1 < w5.heap.size by omega)
      have R5 := Lib.hid ho5.reads
      clear ho5
      go_wp2_with fail
      refine Calls.mono (same_below2 (J4.out _ _ R5.out)) ?_
      rintro e w6 ⟨rfl, hb_w6⟩
      have hz_w6 := hb_w6.size
      try simp at hz_w6
      obtain ⟨c6__0, f6__0⟩ := bk hb_w6 (w.heap.size) (by first | omega | (simp <;> omega))
      have c6__0_0 := c6__0 0; conv at c6__0_0 => rhs; simp [go_sem, *]
      have f6__0_0 := f6__0 0; conv at f6__0_0 => rhs; simp [go_sem, *]
      have c6__0_1 := c6__0 1; conv at c6__0_1 => rhs; simp [go_sem, *]
      have f6__0_1 := f6__0 1; conv at f6__0_1 => rhs; simp [go_sem, *]
      have c6__0_2 := c6__0 2; conv at c6__0_2 => rhs; simp [go_sem, *]
      have f6__0_2 := f6__0 2; conv at f6__0_2 => rhs; simp [go_sem, *]
      have c6__0_3 := c6__0 3; conv at c6__0_3 => rhs; simp [go_sem, *]
      have f6__0_3 := f6__0 3; conv at f6__0_3 => rhs; simp [go_sem, *]
      have c6__0_4 := c6__0 4; conv at c6__0_4 => rhs; simp [go_sem, *]
      have f6__0_4 := f6__0 4; conv at f6__0_4 => rhs; simp [go_sem, *]
      have c6__0_5 := c6__0 5; conv at c6__0_5 => rhs; simp [go_sem, *]
      have f6__0_5 := f6__0 5; conv at f6__0_5 => rhs; simp [go_sem, *]
      have c6__0_6 := c6__0 6; conv at c6__0_6 => rhs; simp [go_sem, *]
      have f6__0_6 := f6__0 6; conv at f6__0_6 => rhs; simp [go_sem, *]
      obtain ⟨c6__1, f6__1⟩ := bk hb_w6 (w.heap.size + 1) (by first | omega | (simp <;> omega))
      have c6__1_0 := c6__1 0; conv at c6__1_0 => rhs; simp [go_sem, *]
      have f6__1_0 := f6__1 0; conv at f6__1_0 => rhs; simp [go_sem, *]
      have c6__1_1 := c6__1 1; conv at c6__1_1 => rhs; simp [go_sem, *]
      have f6__1_1 := f6__1 1; conv at f6__1_1 => rhs; simp [go_sem, *]
      have c6__1_2 := c6__1 2; conv at c6__1_2 => rhs; simp [go_sem, *]
      have f6__1_2 := f6__1 2; conv at f6__1_2 => rhs; simp [go_sem, *]
      have c6__1_3 := c6__1 3; conv at c6__1_3 => rhs; simp [go_sem, *]
      have f6__1_3 := f6__1 3; conv at f6__1_3 => rhs; simp [go_sem, *]
      have c6__1_4 := c6__1 4; conv at c6__1_4 => rhs; simp [go_sem, *]
      have f6__1_4 := f6__1 4; conv at f6__1_4 => rhs; simp [go_sem, *]
      have c6__1_5 := c6__1 5; conv at c6__1_5 => rhs; simp [go_sem, *]
      have f6__1_5 := f6__1 5; conv at f6__1_5 => rhs; simp [go_sem, *]
      have HH_w6 := Lib.hid hb_w6
      have hB_w6 : Below w.heap.size w w6 := Below.trans (by (repeat (first | with_reducible exact Below.refl _ _ | with_reducible assumption | with_reducible refine Below.drew ?_ | (with_reducible refine Below.setCell ?_ ?_ _; rotate_left; (first | omega | (simp <;> omega))) | (with_reducible refine Below.alloc ?_ ?_ _; rotate_left; (first | omega | (simp <;> omega))) | exact Below.refl _ _ | assumption))) (hb_w6.mono (by first | omega | (simp <;> omega)))
      clear hb_w6 c6__0 f6__0 c6__1 f6__1
      try clear c5__0_0 f5__0_0 c5__0_1 f5__0_1 c5__0_2 f5__0_2 c5__0_3 f5__0_3 c5__0_4 f5__0_4 c5__0_5 f5__0_5 c5__0_6 f5__0_6 c5__1_0 f5__1_0 c5__1_1 f5__1_1 c5__1_2 f5__1_2 c5__1_3 f5__1_3 c5__1_4 f5__1_4 c5__1_5 f5__1_5 far_w5_w_0 far_w5_w_1 hB_w5
      have far_w6_w_0 := far (show w.heap.size < w6.heap.size by omega)
      have far_w6_w_1 := far (show w.heap.size + 1 < w6.heap.size by omega)
      go_wp2_with fail
      refine Calls.mono (A5.out _ (by (repeat (first | with_reducible exact Below.refl _ _ | with_reducible assumption | with_reducible refine Below.drew ?_ | (with_reducible refine Below.setCell ?_ ?_ _; rotate_left; (first | omega | (simp <;> omega))) | (with_reducible refine Below.alloc ?_ ?_ _; rotate_left; (first | omega | (simp <;> omega))) | exact Below.refl _ _ | assumption)))) ?_
      rintro e w7 ⟨v7, rfl, ho7, hb_w7⟩
      have hz_w7 := hb_w7.size
      try simp at hz_w7
      obtain ⟨c7__0, f7__0⟩ := bk hb_w7 (w.heap.size) (by first | omega | (simp <;> omega))
      have c7__0_0 := c7__0 0; conv at c7__0_0 => rhs; simp [go_sem, *]
      have f7__0_0 := f7__0 0; conv at f7__0_0 => rhs; simp [go_sem, *]
      have c7__0_1 := c7__0 1; conv at c7__0_1 => rhs; simp [go_sem, *]
      have f7__0_1 := f7__0 1; conv at f7__0_1 => rhs; simp [go_sem, *]
      have c7__0_2 := c7__0 2; conv at c7__0_2 => rhs; simp [go_sem, *]
      have f7__0_2 := f7__0 2; conv at f7__0_2 => rhs; simp [go_sem, *]
      have c7__0_3 := c7__0 3; conv at c7__0_3 => rhs; simp [go_sem, *]
      have f7__0_3 := f7__0 3; conv at f7__0_3 => rhs; simp [go_sem, *]
      have c7__0_4 := c7__0 4; conv at c7__0_4 => rhs; simp [go_sem, *]
      have f7__0_4 := f7__0 4; conv at f7__0_4 => rhs; simp [go_sem, *]
      have c7__0_5 := c7__0 5; conv at c7__0_5 => rhs; simp [go_sem, *]
      have f7__0_5 := f7__0 5; conv at f7__0_5 => rhs; simp [go_sem, *]
      have c7__0_6 := c7__0 6; conv at c7__0_6 => rhs; simp [go_sem, *]
      have f7__0_6 := f7__0 6; conv at f7__0_6 => rhs; simp [go_sem, *]
      obtain ⟨c7__1, f7__1⟩ := bk hb_w7 (w.heap.size + 1) (by first | omega | (simp <;> omega))
      have c7__1_0 := c7__1 0; conv at c7__1_0 => rhs; simp [go_sem, *]
      have f7__1_0 := f7__1 0; conv at f7__1_0 => rhs; simp [go_sem, *]
      have c7__1_1 := c7__1 1; conv at c7__1_1 => rhs; simp [go_sem, *]
      have f7__1_1 := f7__1 1; conv at f7__1_1 => rhs; simp [go_sem, *]
      have c7__1_2 := c7__1 2; conv at c7__1_2 => rhs; simp [go_sem, *]
      have f7__1_2 := f7__1 2; conv at f7__1_2 => rhs; simp [go_sem, *]
      have c7__1_3 := c7__1 3; conv at c7__1_3 => rhs; simp [go_sem, *]
      have f7__1_3 := f7__1 3; conv at f7__1_3 => rhs; simp [go_sem, *]
      have c7__1_4 := c7__1 4; conv at c7__1_4 => rhs; simp [go_sem, *]
      have f7__1_4 := f7__1 4; conv at f7__1_4 => rhs; simp [go_sem, *]
      have c7__1_5 := c7__1 5; conv at c7__1_5 => rhs; simp [go_sem, *]
      have f7__1_5 := f7__1 5; conv at f7__1_5 => rhs; simp [go_sem, *]
      have HH_w7 := Lib.hid hb_w7
      have hB_w7 : Below w.heap.size w w7 := Below.trans (by (repeat (first | with_reducible exact Below.refl _ _ | with_reducible assumption | with_reducible refine Below.drew ?_ | (with_reducible refine Below.setCell ?_ ?_ _; rotate_left; (first | omega | (simp <;> omega))) | (with_reducible refine Below.alloc ?_ ?_ _; rotate_left; (first | omega | (simp <;> omega))) | exact Below.refl _ _ | assumption))) (hb_w7.mono (by first | omega | (simp <;> omega)))
      clear hb_w7 c7__0 f7__0 c7__1 f7__1
      try clear c6__0_0 f6__0_0 c6__0_1 f6__0_1 c6__0_2 f6__0_2 c6__0_3 f6__0_3 c6__0_4 f6__0_4 c6__0_5 f6__0_5 c6__0_6 f6__0_6 c6__1_0 f6__1_0 c6__1_1 f6__1_1 c6__1_2 f6__1_2 c6__1_3 f6__1_3 c6__1_4 f6__1_4 c6__1_5 f6__1_5 far_w6_w_0 far_w6_w_1 hB_w6
      have far_w7_w_0 := far (show w.heap.size < w7.heap.size by omega)
      have far_w7_w_1 := far (show w.heap.size + 1 < w7.heap.size by omega)
      have R7 := Lib.hid ho7.reads
      clear ho7
      go_wp2_with fail
      refine Calls.mono (same_below2 (J5.out _ _ R7.out)) ?_
      rintro e w8 ⟨rfl, hb_w8⟩
      have hz_w8 := hb_w8.size
      try simp at hz_w8
      obtain ⟨c8__0, f8__0⟩ := bk hb_w8 (w.heap.size) (by first | omega | (simp <;> omega))
      have c8__0_0 := c8__0 0; conv at c8__0_0 => rhs; simp [go_sem, *]
      have f8__0_0 := f8__0 0; conv at f8__0_0 => rhs; simp [go_sem, *]
      have c8__0_1 := c8__0 1; conv at c8__0_1 => rhs; simp [go_sem, *]
      have f8__0_1 := f8__0 1; conv at f8__0_1 => rhs; simp [go_sem, *]
      have c8__0_2 := c8__0 2; conv at c8__0_2 => rhs; simp [go_sem, *]
      have f8__0_2 := f8__0 2; conv at f8__0_2 => rhs; simp [go_sem, *]
      have c8__0_3 := c8__0 3; conv at c8__0_3 => rhs; simp [go_sem, *]
      have f8__0_3 := f8__0 3; conv at f8__0_3 => rhs; simp [go_sem, *]
      have c8__0_4 := c8__0 4; conv at c8__0_4 => rhs; simp [go_sem, *]
      have f8__0_4 := f8__0 4; conv at f8__0_4 => rhs; simp [go_sem, *]
      have c8__0_5 := c8__0 5; conv at c8__0_5 => rhs; simp [go_sem, *]
      have f8__0_5 := f8__0 5; conv at f8__0_5 => rhs; simp [go_sem, *]
      have c8__0_6 := c8__0 6; conv at c8__0_6 => rhs; simp [go_sem, *]
      have f8__0_6 := f8__0 6; conv at f8__0_6 => rhs; simp [go_sem, *]
      obtain ⟨c8__1, f8__1⟩ := bk hb_w8 (w.heap.size + 1) (by first | omega | (simp <;> omega))
      have c8__1_0 := c8__1 0; conv at c8__1_0 => rhs; simp [go_sem, *]
      have f8__1_0 := f8__1 0; conv at f8__1_0 => rhs; simp [go_sem, *]
      have c8__1_1 := c8__1 1; conv at c8__1_1 => rhs; simp [go_sem, *]
      have f8__1_1 := f8__1 1; conv at f8__1_1 => rhs; simp [go_sem, *]
      have c8__1_2 := c8__1 2; conv at c8__1_2 => rhs; simp [go_sem, *]
      have f8__1_2 := f8__1 2; conv at f8__1_2 => rhs; simp [go_sem, *]
      have c8__1_3 := c8__1 3; conv at c8__1_3 => rhs; simp [go_sem, *]
      have f8__1_3 := f8__1 3; conv at f8__1_3 => rhs; simp [go_sem, *]
      have c8__1_4 := c8__1 4; conv at c8__1_4 => rhs; simp [go_sem, *]
      have f8__1_4 := f8__1 4; conv at f8__1_4 => rhs; simp [go_sem, *]
      have c8__1_5 := c8__1 5; conv at c8__1_5 => rhs; simp [go_sem, *]
      have f8__1_5 := f8__1 5; conv at f8__1_5 => rhs; simp [go_sem, *]
      have HH_w8 := Lib.hid hb_w8
      have hB_w8 : Below w.heap.size w w8 := Below.trans (by (repeat (first | with_reducible exact Below.refl _ _ | with_reducible assumption | with_reducible refine Below.drew ?_ | (with_reducible refine Below.setCell ?_ ?_ _; rotate_left; (first | omega | (simp <;> omega))) | (with_reducible refine Below.alloc ?_ ?_ _; rotate_left; (first | omega | (simp <;> omega))) | exact Below.refl _ _ | assumption))) (hb_w8.mono (by first | omega | (simp <;> omega)))
      clear hb_w8 c8__0 f8__0 c8__1 f8__1
      try clear c7__0_0 f7__0_0 c7__0_1 f7__0_1 c7__0_2 f7__0_2 c7__0_3 f7__0_3 c7__0_4 f7__0_4 c7__0_5 f7__0_5 c7__0_6 f7__0_6 c7__1_0 f7__1_0 c7__1_1 f7__1_1 c7__1_2 f7__1_2 c7__1_3 f7__1_3 c7__1_4 f7__1_4 c7__1_5 f7__1_5 far_w7_w_0 far_w7_w_1 hB_w7
      have far_w8_w_0 := far (show w.heap.size < w8.heap.size by omega)
      have far_w8_w_1 := far (show w.heap.size + 1 < w8.heap.size by omega)
      go_wp2
      refine bodyPost_ret (v := .agg #[.string (S g1), .string (S g2), .string (S g3), .string (S g4), .string (S g5), .string (S Q)]) (by simp [results, Tryz.results16, go_sem, *]) rfl ⟨rfl, ?_⟩
      (repeat (first | with_reducible exact Below.refl _ _ | with_reducible assumption | with_reducible refine Below.drew ?_ | (with_reducible refine Below.setCell ?_ ?_ _; rotate_left; (first | omega | (simp <;> omega))) | (with_reducible refine Below.alloc ?_ ?_ _; rotate_left; (first | omega | (simp <;> omega))) | exact Below.refl _ _ | assumption))
    · obtain ⟨j, rfl⟩ : ∃ j, k = j + 1 := ⟨k - 1, by omega⟩
      have hjl : j < t.length := by omega
      have hbat := bAt_eq hjl
      have hq := QC.out j hjl
      have hj1 : ((j + 1 : Nat) : Int) - 1 = (j : Int) := by omega
      obtain ⟨c0, hc0⟩ : ∃ c0, t[j] = c0 := ⟨_, rfl⟩
      rw [hc0] at hbat hq
      by_cases h63 : c0 = 63
      · have b1 : (bAt t j == 63) = true := by rw [hbat, h63]; rfl
        rw [if_pos h63] at hq
        have HQJ := Lib.hid hq
        clear hbat hq hc0
        go_wp2_with fail
        go_round
        case rel => exact ⟨j, by go_num, by omega, by rw [HQJ.out]⟩
        case measure => first | (simp [intOf]; done) | (simp [intOf]; omega)
      · have b1 : (bAt t j == 63) = false := by rw [hbat]; simp only [beq_eq_false_iff_ne, ne_eq]; exact fun e => h63 (UInt8.toNat.inj (by rw [show (63 : UInt8).toNat = 63 from rfl]; omega))
        rw [if_neg h63] at hq
        have HQJ := Lib.hid hq
        clear hbat hq hc0
        go_wp2_with fail
        go_round
        case rel => exact ⟨j, by go_num, by omega, by rw [HQJ.out]⟩
        case measure => first | (simp [intOf]; done) | (simp [intOf]; omega)
end Go.Proofs.YtenflcaalckdfaaGreatDoor
