/- The document's part of a field: the walk. -/
import Derived.Test.YtcfihoniocamaaaDoorSurWord
import Derived.Test.YtcfihoniocamaaaDoorTextSplit2
import Derived.Test.YtcfihoniocamaaaDoorPairsRef3
namespace Go.Proofs.YtcfihoniocamaaaDoor
open Go.RowKit Go.Sort Go.Shelf
set_option linter.unusedVariables false

theorem same_then_below {P : Program} {f : FuncId} {args : Array Value} {w : World} {v : Value} (h : Calls P f args w fun e w' => e = .returned v ∧ w' = w) : Calls P f args w fun e w' => e = .returned v ∧ Below w.heap.size w w' :=
  h.mono fun e w' ⟨h1, h2⟩ => ⟨h1, h2 ▸ Below.refl _ _⟩
/-- What part's answer is worth. -/
def PartTo (w : World) (p : List UInt8) (e : Ending) (w' : World) : Prop :=
  ∃ a b c : List UInt8, e = .returned (.tuple #[.agg #[.string (S a), .string (S b), .string (S c)], .bool (wordW p).isSome]) ∧ (∀ x, wordW p = some x → x = (a, b, c)) ∧ Below w.heap.size w w'
theorem refSplit_none {p : List UInt8} {b : UInt8} (hp : p.length ≤ 1000000) (h : splitL b p = none) (w : World) : Calls Tryd.prog 36 #[.string (S p), .int .u8 (b.toNat : Int)] w fun e w' => ∃ v, e = .returned (.tuple #[v, .int .i64 11]) ∧ Owns w' w.heap.size v [] ∧ Below w.heap.size w w' := by
  have := refSplit p b (by omega) w
  rw [h] at this
  refine this.mono ?_
  rintro e w' ⟨v, h1, h2, h3⟩
  exact ⟨v, h2, h1, h3⟩
theorem refSplit_some {p : List UInt8} {b : UInt8} {L : List (List UInt8)} (hp : p.length ≤ 1000000) (h : splitL b p = some L) (w : World) : Calls Tryd.prog 36 #[.string (S p), .int .u8 (b.toNat : Int)] w fun e w' => ∃ v, e = .returned (.tuple #[v, .int .i64 0]) ∧ Owns w' w.heap.size v L ∧ Below w.heap.size w w' := by
  have := refSplit p b (by omega) w
  rw [h] at this
  refine this.mono ?_
  rintro e w' ⟨v, h1, h2, h3⟩
  exact ⟨v, h2, h1, h3⟩

set_option maxHeartbeats 1600000 in
set_option maxRecDepth 100000 in
theorem refPart_none (p : List UInt8) (hp : p.length ≤ 1000000) (h : splitL 59 p = none) (w : World) : Calls Tryd.prog 37 #[.string (S p)] w fun e w' => PartTo w p e w' := by
  have hW : wordW p = none := by unfold wordW; rw [h]
  unfold PartTo
  rw [hW]
  have SP := Lib.hid (fun W => refSplit_none hp h W)
  clear h hW
  go_enter Tryd.func37, Tryd.ntmps37
  go_wp2_with fail
  refine Calls.mono (SP.out _) ?_
  rintro e w1 ⟨v, rfl, ho, hb_w1⟩
  have hz_w1 := hb_w1.size
  try simp at hz_w1
  obtain ⟨c_w1_w_0, f_w1_w_0⟩ := bk hb_w1 (w.heap.size) (by first | omega | (simp <;> omega))
  have c_w1_w_0_0 := c_w1_w_0 0
  conv at c_w1_w_0_0 => rhs; simp [go_sem, *]
  have f_w1_w_0_0 := f_w1_w_0 0
  conv at f_w1_w_0_0 => rhs; simp [go_sem, *]
  have c_w1_w_0_1 := c_w1_w_0 1
  conv at c_w1_w_0_1 => rhs; simp [go_sem, *]
  have f_w1_w_0_1 := f_w1_w_0 1
  conv at f_w1_w_0_1 => rhs; simp [go_sem, *]
  have c_w1_w_0_2 := c_w1_w_0 2
  conv at c_w1_w_0_2 => rhs; simp [go_sem, *]
  have f_w1_w_0_2 := f_w1_w_0 2
  conv at f_w1_w_0_2 => rhs; simp [go_sem, *]
  obtain ⟨c_w1_w_1, f_w1_w_1⟩ := bk hb_w1 (w.heap.size + 1) (by first | omega | (simp <;> omega))
  have c_w1_w_1_0 := c_w1_w_1 0
  conv at c_w1_w_1_0 => rhs; simp [go_sem, *]
  have f_w1_w_1_0 := f_w1_w_1 0
  conv at f_w1_w_1_0 => rhs; simp [go_sem, *]
  have c_w1_w_1_1 := c_w1_w_1 1
  conv at c_w1_w_1_1 => rhs; simp [go_sem, *]
  have f_w1_w_1_1 := f_w1_w_1 1
  conv at f_w1_w_1_1 => rhs; simp [go_sem, *]
  have c_w1_w_1_2 := c_w1_w_1 2
  conv at c_w1_w_1_2 => rhs; simp [go_sem, *]
  have f_w1_w_1_2 := f_w1_w_1 2
  conv at f_w1_w_1_2 => rhs; simp [go_sem, *]
  have HH_w1 := Lib.hid hb_w1
  have hB_w1 : Below w.heap.size w w1 := Below.trans (by (repeat (first | (with_reducible exact Below.refl _ _) | (with_reducible assumption) | (with_reducible refine Below.drew ?_) | (focus ((with_reducible refine Below.setCell ?_ ?_ _); rotate_left; (first | omega | (simp <;> omega)))) | (focus ((with_reducible refine Below.alloc ?_ ?_ _); rotate_left; (first | omega | (simp <;> omega)))) | exact Below.refl _ _ | assumption | refine Below.drew ?_ | refine Below.alloc ?_ (by first | omega | (simp <;> omega)) _ | refine Below.setCell ?_ (by first | omega | (simp <;> omega)) _))) (hb_w1.mono (by first | omega | (simp <;> omega)))
  clear hb_w1 c_w1_w_0 f_w1_w_0 c_w1_w_1 f_w1_w_1
  have far_w1_w_0 := far (show w.heap.size < w1.heap.size by omega)
  have far_w1_w_1 := far (show w.heap.size + 1 < w1.heap.size by omega)
  go_wp2
  refine bodyPost_ret (v := .tuple #[.agg #[.string (S []), .string (S []), .string (S [])], .bool false]) (by simp [results, Tryd.results37, go_sem, *]) rfl ⟨[], [], [], rfl, (fun x hx => by cases hx), ?_⟩
  (repeat (first | (with_reducible exact Below.refl _ _) | (with_reducible assumption) | (with_reducible refine Below.drew ?_) | (focus ((with_reducible refine Below.setCell ?_ ?_ _); rotate_left; (first | omega | (simp <;> omega)))) | (focus ((with_reducible refine Below.alloc ?_ ?_ _); rotate_left; (first | omega | (simp <;> omega)))) | exact Below.refl _ _ | assumption | refine Below.drew ?_ | refine Below.alloc ?_ (by first | omega | (simp <;> omega)) _ | refine Below.setCell ?_ (by first | omega | (simp <;> omega)) _))

set_option maxHeartbeats 1600000 in
set_option maxRecDepth 100000 in
theorem refPart_many (p : List UInt8) (hp : p.length ≤ 1000000) (L : List (List UInt8)) (h : splitL 59 p = some L) (hl : 2 < L.length) (hlm : L.length ≤ 1000001) (w : World) : Calls Tryd.prog 37 #[.string (S p)] w fun e w' => PartTo w p e w' := by
  have hW : wordW p = none := by unfold wordW; rw [h]; simp only; rw [if_pos (.inl hl)]
  unfold PartTo
  rw [hW]
  have SP := Lib.hid (fun W => refSplit_some hp h W)
  have hli : 2 < (L.length : Int) := by omega
  clear h hW
  go_enter Tryd.func37, Tryd.ntmps37
  go_wp2_with fail
  refine Calls.mono (SP.out _) ?_
  rintro e w1 ⟨v, rfl, ho, hb_w1⟩
  have hz_w1 := hb_w1.size
  try simp at hz_w1
  obtain ⟨c_w1_w_0, f_w1_w_0⟩ := bk hb_w1 (w.heap.size) (by first | omega | (simp <;> omega))
  have c_w1_w_0_0 := c_w1_w_0 0
  conv at c_w1_w_0_0 => rhs; simp [go_sem, *]
  have f_w1_w_0_0 := f_w1_w_0 0
  conv at f_w1_w_0_0 => rhs; simp [go_sem, *]
  have c_w1_w_0_1 := c_w1_w_0 1
  conv at c_w1_w_0_1 => rhs; simp [go_sem, *]
  have f_w1_w_0_1 := f_w1_w_0 1
  conv at f_w1_w_0_1 => rhs; simp [go_sem, *]
  have c_w1_w_0_2 := c_w1_w_0 2
  conv at c_w1_w_0_2 => rhs; simp [go_sem, *]
  have f_w1_w_0_2 := f_w1_w_0 2
  conv at f_w1_w_0_2 => rhs; simp [go_sem, *]
  obtain ⟨c_w1_w_1, f_w1_w_1⟩ := bk hb_w1 (w.heap.size + 1) (by first | omega | (simp <;> omega))
  have c_w1_w_1_0 := c_w1_w_1 0
  conv at c_w1_w_1_0 => rhs; simp [go_sem, *]
  have f_w1_w_1_0 := f_w1_w_1 0
  conv at f_w1_w_1_0 => rhs; simp [go_sem, *]
  have c_w1_w_1_1 := c_w1_w_1 1
  conv at c_w1_w_1_1 => rhs; simp [go_sem, *]
  have f_w1_w_1_1 := f_w1_w_1 1
  conv at f_w1_w_1_1 => rhs; simp [go_sem, *]
  have c_w1_w_1_2 := c_w1_w_1 2
  conv at c_w1_w_1_2 => rhs; simp [go_sem, *]
  have f_w1_w_1_2 := f_w1_w_1 2
  conv at f_w1_w_1_2 => rhs; simp [go_sem, *]
  have HH_w1 := Lib.hid hb_w1
  have hB_w1 : Below w.heap.size w w1 := Below.trans (by (repeat (first | (with_reducible exact Below.refl _ _) | (with_reducible assumption) | (with_reducible refine Below.drew ?_) | (focus ((with_reducible refine Below.setCell ?_ ?_ _); rotate_left; (first | omega | (simp <;> omega)))) | (focus ((with_reducible refine Below.alloc ?_ ?_ _); rotate_left; (first | omega | (simp <;> omega)))) | exact Below.refl _ _ | assumption | refine Below.drew ?_ | refine Below.alloc ?_ (by first | omega | (simp <;> omega)) _ | refine Below.setCell ?_ (by first | omega | (simp <;> omega)) _))) (hb_w1.mono (by first | omega | (simp <;> omega)))
  clear hb_w1 c_w1_w_0 f_w1_w_0 c_w1_w_1 f_w1_w_1
  have far_w1_w_0 := far (show w.heap.size < w1.heap.size by omega)
  have far_w1_w_1 := far (show w.heap.size + 1 < w1.heap.size by omega)
  obtain ⟨ao, cap, h1, _⟩ := ho.shape
  subst h1
  go_wp2
  refine bodyPost_ret (v := .tuple #[.agg #[.string (S []), .string (S []), .string (S [])], .bool false]) (by simp [results, Tryd.results37, go_sem, *]) rfl ⟨[], [], [], rfl, (fun x hx => by cases hx), ?_⟩
  (repeat (first | (with_reducible exact Below.refl _ _) | (with_reducible assumption) | (with_reducible refine Below.drew ?_) | (focus ((with_reducible refine Below.setCell ?_ ?_ _); rotate_left; (first | omega | (simp <;> omega)))) | (focus ((with_reducible refine Below.alloc ?_ ?_ _); rotate_left; (first | omega | (simp <;> omega)))) | exact Below.refl _ _ | assumption | refine Below.drew ?_ | refine Below.alloc ?_ (by first | omega | (simp <;> omega)) _ | refine Below.setCell ?_ (by first | omega | (simp <;> omega)) _))

set_option maxHeartbeats 1600000 in
set_option maxRecDepth 100000 in
theorem refPart_dev (p : List UInt8) (hp : p.length ≤ 1000000) (x d : List UInt8) (h : splitL 59 p = some [x, d]) (hd : d.length ≤ 1000000) (ht : tokenL d = false) (w : World) : Calls Tryd.prog 37 #[.string (S p)] w fun e w' => PartTo w p e w' := by
  have hW : wordW p = none := by unfold wordW; rw [h]; simp only; rw [if_pos (.inr ⟨rfl, ht⟩)]
  unfold PartTo
  rw [hW]
  have SP := Lib.hid (fun W => refSplit_some hp h W)
  have TK := Lib.hid (fun W => refToken d (by omega) W)
  rw [ht] at TK
  clear h hW ht
  go_enter Tryd.func37, Tryd.ntmps37
  go_wp2_with fail
  refine Calls.mono (SP.out _) ?_
  rintro e w1 ⟨v, rfl, ho, hb_w1⟩
  have hz_w1 := hb_w1.size
  try simp at hz_w1
  obtain ⟨c_w1_w_0, f_w1_w_0⟩ := bk hb_w1 (w.heap.size) (by first | omega | (simp <;> omega))
  have c_w1_w_0_0 := c_w1_w_0 0
  conv at c_w1_w_0_0 => rhs; simp [go_sem, *]
  have f_w1_w_0_0 := f_w1_w_0 0
  conv at f_w1_w_0_0 => rhs; simp [go_sem, *]
  have c_w1_w_0_1 := c_w1_w_0 1
  conv at c_w1_w_0_1 => rhs; simp [go_sem, *]
  have f_w1_w_0_1 := f_w1_w_0 1
  conv at f_w1_w_0_1 => rhs; simp [go_sem, *]
  have c_w1_w_0_2 := c_w1_w_0 2
  conv at c_w1_w_0_2 => rhs; simp [go_sem, *]
  have f_w1_w_0_2 := f_w1_w_0 2
  conv at f_w1_w_0_2 => rhs; simp [go_sem, *]
  obtain ⟨c_w1_w_1, f_w1_w_1⟩ := bk hb_w1 (w.heap.size + 1) (by first | omega | (simp <;> omega))
  have c_w1_w_1_0 := c_w1_w_1 0
  conv at c_w1_w_1_0 => rhs; simp [go_sem, *]
  have f_w1_w_1_0 := f_w1_w_1 0
  conv at f_w1_w_1_0 => rhs; simp [go_sem, *]
  have c_w1_w_1_1 := c_w1_w_1 1
  conv at c_w1_w_1_1 => rhs; simp [go_sem, *]
  have f_w1_w_1_1 := f_w1_w_1 1
  conv at f_w1_w_1_1 => rhs; simp [go_sem, *]
  have c_w1_w_1_2 := c_w1_w_1 2
  conv at c_w1_w_1_2 => rhs; simp [go_sem, *]
  have f_w1_w_1_2 := f_w1_w_1 2
  conv at f_w1_w_1_2 => rhs; simp [go_sem, *]
  have HH_w1 := Lib.hid hb_w1
  have hB_w1 : Below w.heap.size w w1 := Below.trans (by (repeat (first | (with_reducible exact Below.refl _ _) | (with_reducible assumption) | (with_reducible refine Below.drew ?_) | (focus ((with_reducible refine Below.setCell ?_ ?_ _); rotate_left; (first | omega | (simp <;> omega)))) | (focus ((with_reducible refine Below.alloc ?_ ?_ _); rotate_left; (first | omega | (simp <;> omega)))) | exact Below.refl _ _ | assumption | refine Below.drew ?_ | refine Below.alloc ?_ (by first | omega | (simp <;> omega)) _ | refine Below.setCell ?_ (by first | omega | (simp <;> omega)) _))) (hb_w1.mono (by first | omega | (simp <;> omega)))
  clear hb_w1 c_w1_w_0 f_w1_w_0 c_w1_w_1 f_w1_w_1
  have far_w1_w_0 := far (show w.heap.size < w1.heap.size by omega)
  have far_w1_w_1 := far (show w.heap.size + 1 < w1.heap.size by omega)
  obtain ⟨g, cap, h1, _, _, hg, hc⟩ := ho.at 1 (by simp)
  subst h1
  have e0 := hc 0 (by simp)
  have e1 := hc 1 (by simp)
  simp only [List.getElem_cons_zero, List.getElem_cons_succ, List.length_cons, List.length_nil] at e0 e1 ⊢
  clear hc ho
  go_wp2_with (go_at_call 43; refine Calls.mono (TK.out _) ?_; rintro e w' ⟨rfl, hw'⟩; obtain rfl := hw'.symm)
  refine bodyPost_ret (v := .tuple #[.agg #[.string (S []), .string (S []), .string (S [])], .bool false]) (by simp [results, Tryd.results37, go_sem, *]) rfl ⟨[], [], [], rfl, (fun x hx => by cases hx), ?_⟩
  (repeat (first | (with_reducible exact Below.refl _ _) | (with_reducible assumption) | (with_reducible refine Below.drew ?_) | (focus ((with_reducible refine Below.setCell ?_ ?_ _); rotate_left; (first | omega | (simp <;> omega)))) | (focus ((with_reducible refine Below.alloc ?_ ?_ _); rotate_left; (first | omega | (simp <;> omega)))) | exact Below.refl _ _ | assumption | refine Below.drew ?_ | refine Below.alloc ?_ (by first | omega | (simp <;> omega)) _ | refine Below.setCell ?_ (by first | omega | (simp <;> omega)) _))
end Go.Proofs.YtcfihoniocamaaaDoor
