/- Rows of fields: a field found by its name (table.Get): the walks. Where a request goes, and the address of what it asks: the walk of route.Ask. Printed by tools/rtask.py. -/
import Derived.Test.YtgjemgilanhdiaaGreatDoorRf33
import Derived.Test.YtgjemgilanhdiaaGreatDoorRf10
import Derived.Test.YtgjemgilanhdiaaGreatDoorRf31
import Derived.Test.YtgjemgilanhdiaaGreatDoorRf4
import Derived.Test.YtgjemgilanhdiaaGreatDoorRf29
import Derived.Test.YtgjemgilanhdiaaGreatDoorRf22
namespace Go.Proofs.YtgjemgilanhdiaaGreatDoor
open Go.RowKit Go.Sort Go.Shelf
set_option linter.unusedVariables false

def fv (f : Fld) : Value := .agg #[.string (S f.1), .string (S f.2)]
def Small (f : Fld) : Prop := f.1.length ≤ 4611686018427387903 ∧ f.2.length ≤ 4611686018427387903


def IdxIs (p : Fld → Bool) (L : List Fld) (r : Int) : Prop :=
  (r = -1 ∧ ∀ j (h : j < L.length), p L[j] = false) ∨ ∃ i : Nat, r = i ∧ ∃ h : i < L.length, p L[i] = true ∧ ∀ j (h : j < L.length), j < i → p L[j] = false
theorem IdxIs.any {p : Fld → Bool} {L : List Fld} {r : Int} (h : IdxIs p L r) : decide (0 ≤ r) = L.any p := by
  rcases h with ⟨rfl, h⟩ | ⟨i, rfl, hi, h1, _⟩
  · symm
    simp only [Int.reduceNeg, Int.reduceLE, decide_false]
    rw [List.any_eq_false]
    intro f hf
    obtain ⟨j, hj, rfl⟩ := List.getElem_of_mem hf
    simp [h j hj]
  · rw [List.any_eq_true.2 ⟨_, List.getElem_mem hi, h1⟩]
    simp

set_option maxHeartbeats 1600000 in
theorem idxFld (fn : Nat) (lb : Array Value) (p : Fld → Bool) (eg : ∀ args w, (callFunc fn args).run Tryz.prog w = .ok (.enter fn args) w) (v : Value) (L : List Fld) (W : World) (hr : ReadsF W v L)
    (hcl : ∀ f, f ∈ L → ∀ W', Below W.heap.size W W' → Calls Tryz.prog fn (#[fv f] ++ lb) W' fun e w' => e = .returned (.bool (p f)) ∧ Below W'.heap.size W' w') :
    Calls Tryz.prog 37 #[v, .func (.func fn) #[] lb] W fun e w' => ∃ r, e = .returned (.int .i64 r) ∧ IdxIs p L r ∧ Below W.heap.size W w' := by
  obtain ⟨ao, cap, rfl, hc1, hc2, hc3, hcell⟩ := hr
  have hm : maxLen = 9223372036854775807 := rfl
  rw [hm] at hc2
  have HC := Lib.hid hcell
  have HF := Lib.hid hcl
  clear hm hcell hcl hc3
  go_enter Tryz.func37, Tryz.ntmps37
  go_wp2
  go_loopw [8] (fun iv wr => ∃ i : Nat, iv = .int .i64 i ∧ i ≤ L.length ∧ (∀ j (h : j < L.length), j < i → p L[j] = false) ∧ Below W.heap.size W wr) (fun iv _ => L.length - (intOf iv).toNat)
  case atStart => exact ⟨0, rfl, Nat.zero_le _, fun j _ h => by omega, by (repeat (first | with_reducible exact Below.refl _ _ | with_reducible assumption | with_reducible refine Below.drew ?_ | (with_reducible refine Below.setCell ?_ ?_ _; rotate_left; (first | omega | (simp <;> omega))) | (with_reducible refine Below.alloc ?_ ?_ _; rotate_left; (first | omega | (simp <;> omega))) | exact Below.refl _ _ | assumption))⟩
  case round =>
    obtain ⟨i, rfl, hi, hall, hB⟩ := hrel
    have HA := Lib.hid hall
    have hz := hB.size
    clear hall
    by_cases hlt : i < L.length
    · obtain ⟨b, off, rfl, hb, hcl⟩ := HC.out (by omega)
      obtain ⟨e1, e2⟩ := hcl i hlt
      rw [← hB.cell (p := ⟨b, off + i * 2, none⟩) hb] at e1
      rw [← hB.cell (p := ⟨b, off + i * 2 + 1, none⟩) hb] at e2
      have hcall := HF.out L[i] (List.getElem_mem hlt) wr hB
      have HYES := Lib.hid (show p L[i] = true → IdxIs p L i from fun h => .inr ⟨i, rfl, hlt, h, HA.out⟩)
      have HNO := Lib.hid (show p L[i] = false → ∀ j (h : j < L.length), j < i + 1 → p L[j] = false from fun h j hj hji => by
        by_cases e : j = i
        · subst e; exact h
        · exact HA.out j hj (by omega))
      obtain ⟨⟨n, x⟩, hf⟩ : ∃ f, L[i] = f := ⟨_, rfl⟩
      rw [hf] at e1 e2 hcall HYES HNO
      obtain ⟨y, hy⟩ : ∃ y, p (n, x) = y := ⟨_, rfl⟩
      rw [hy] at hcall HYES HNO
      have hcall : Calls Tryz.prog fn (#[.agg #[.string (S n), .string (S x)]] ++ lb) wr fun e w' => e = .returned (.bool y) ∧ Below wr.heap.size wr w' := hcall
      simp only at e1 e2
      clear hcl hf hy
      cases y with
      | true =>
        go_wp2_with (go_at_fn fn; refine hcall.mono ?_; rintro e w' ⟨rfl, hb1⟩)
        go_ret
        exact ⟨_, rfl, HYES.out trivial, hB.trans (hb1.mono hz)⟩
      | false =>
        go_wp2_with (go_at_fn fn; refine hcall.mono ?_; rintro e w' ⟨rfl, hb1⟩)
        go_roundw
        case rel => exact ⟨i + 1, by go_num, by omega, HNO.out trivial, hB.trans (hb1.mono hz)⟩
        case measure => simp [intOf]; omega
    · have H := Lib.hid (show IdxIs p L (-1) from .inl ⟨rfl, fun j hj => HA.out j hj (by omega)⟩)
      go_wp2
      go_ret
      exact ⟨_, rfl, H.out, hB⟩


theorem IdxIs.find {p : Fld → Bool} {L : List Fld} {r : Int} (h : IdxIs p L r) : (r = -1 ∧ L.find? p = none) ∨ ∃ i : Nat, r = i ∧ ∃ h : i < L.length, L.find? p = some L[i] := by
  rcases h with ⟨rfl, h⟩ | ⟨i, rfl, hi, h1, h2⟩
  · refine .inl ⟨rfl, List.find?_eq_none.2 fun f hf => ?_⟩
    obtain ⟨j, hj, rfl⟩ := List.getElem_of_mem hf
    simp [h j hj]
  · refine .inr ⟨i, rfl, hi, ?_⟩
    rw [List.find?_eq_some_iff_getElem]
    exact ⟨h1, i, hi, rfl, fun j hj => by simp [h2 j (by omega) hj]⟩

def isNamed (g : Nat) : Value := .func (.func 64) #[] #[.pointer (some ⟨g, 0, none⟩)]

theorem named (m : List UInt8) (w : World) : Calls Tryz.prog 38 #[.string (S m)] w fun e w' =>
    e = .returned (isNamed w.heap.size) ∧ w'.cell? ⟨w.heap.size, 0, none⟩ = some (.string (S m)) ∧ w.heap.size < w'.heap.size ∧ Below w.heap.size w w' := by
  unfold isNamed
  go_enter Tryz.func38, Tryz.ntmps38
  go_wp2
  go_ret
  exact ⟨rfl, by simp, by simp, by (repeat (first | with_reducible exact Below.refl _ _ | with_reducible assumption | with_reducible refine Below.drew ?_ | (with_reducible refine Below.setCell ?_ ?_ _; rotate_left; (first | omega | (simp <;> omega))) | (with_reducible refine Below.alloc ?_ ?_ _; rotate_left; (first | omega | (simp <;> omega))) | exact Below.refl _ _ | assumption))⟩

theorem named1 (f : Fld) (hf : Small f) (g : Nat) (m : List UInt8) (hm : m.length ≤ 4611686018427387903) (w : World) (hc : w.cell? ⟨g, 0, none⟩ = some (.string (S m))) (hg : g < w.heap.size) :
    Calls Tryz.prog 64 #[fv f, .pointer (some ⟨g, 0, none⟩)] w fun e w' => e = .returned (.bool (sameN f.1 m)) ∧ Below w.heap.size w w' := by
  obtain ⟨n, v⟩ := f
  have C := Lib.hid (fun W => textSame n m (by have := hf.1; simp only at this; omega) (by omega) W)
  unfold fv sameN
  simp only
  have hfar := far hg
  obtain ⟨b, hb⟩ : ∃ b, (lower n == lower m) = b := ⟨_, rfl⟩
  rw [hb] at C ⊢
  clear hb hf hm
  go_enter Tryz.func64, Tryz.ntmps64
  go_wp2_with (go_at_call 39; refine (C.out _).mono ?_; rintro e w1 ⟨rfl, hb⟩; have hbw := Below.trans (show Below w.heap.size w _ by (repeat (first | with_reducible exact Below.refl _ _ | with_reducible assumption | with_reducible refine Below.drew ?_ | (with_reducible refine Below.setCell ?_ ?_ _; rotate_left; (first | omega | (simp <;> omega))) | (with_reducible refine Below.alloc ?_ ?_ _; rotate_left; (first | omega | (simp <;> omega))) | exact Below.refl _ _ | assumption))) (hb.mono (by (first | omega | (simp <;> omega)))))
  go_ret
  exact ⟨rfl, hbw⟩

theorem idxNamed (v : Value) (L : List Fld) (g : Nat) (m : List UInt8) (hm : m.length ≤ 4611686018427387903) (W : World) (hr : ReadsF W v L) (hs : ∀ f ∈ L, Small f) (hc : W.cell? ⟨g, 0, none⟩ = some (.string (S m))) (hg : g < W.heap.size) :
    Calls Tryz.prog 37 #[v, isNamed g] W fun e w' => ∃ r, e = .returned (.int .i64 r) ∧ IdxIs (fun f => sameN f.1 m) L r ∧ Below W.heap.size W w' :=
  idxFld 64 #[.pointer (some ⟨g, 0, none⟩)] (fun f => sameN f.1 m) (enters_of Tryz.func64 (by kernel_rfl) rfl) v L W hr
    (fun f hf W' hb => named1 f (hs f hf) g m hm W' (by rw [hb.cell (p := ⟨g, 0, none⟩) hg]; exact hc) (Nat.lt_of_lt_of_le hg hb.size))

def getV (L : List Fld) (m : List UInt8) : List UInt8 × Bool := match L.find? (fun f => sameN f.1 m) with
  | some f => (f.2, true)
  | none => ([], false)

set_option maxHeartbeats 1600000 in
set_option maxRecDepth 100000 in
theorem tableGet (v : Value) (L : List Fld) (m : List UInt8) (hm : m.length ≤ 4611686018427387903) (w : World) (hr : ReadsF w v L) (hs : ∀ f ∈ L, Small f) :
    Calls Tryz.prog 21 #[v, .string (S m)] w fun e w' => e = .returned (.tuple #[.string (S (getV L m).1), .bool (getV L m).2]) ∧ Below w.heap.size w w' := by
  have C := Lib.hid (fun W (hb : Below w.heap.size w W) g hc hg => idxNamed v L g m hm W (hr.below hb) hs hc hg)
  have HR := Lib.hid hr
  obtain ⟨ao, cap, rfl, hc1, hc2, _, _⟩ := hr
  have hm' : maxLen = 9223372036854775807 := rfl
  rw [hm'] at hc2
  clear hm' hs hm
  have h0 := Below.refl w.heap.size w
  go_enter Tryz.func21, Tryz.ntmps21
  go_wp2_with fail
  refine (named m w).mono ?_
  rintro e w1 ⟨rfl, hcell, hlt, hb1⟩
  go_wp2_with fail
  refine (C.out w1 hb1 w.heap.size hcell hlt).mono ?_
  rintro e w2 ⟨r, rfl, hr, hb2⟩
  have hb := hb1.trans (hb2.mono (Nat.le_of_lt hlt))
  rcases hr.find with ⟨rfl, hf⟩ | ⟨i, rfl, hi, hf⟩
  · have e : getV L m = ([], false) := by unfold getV; rw [hf]
    have E := Lib.hid e
    clear e hf hr
    go_wp2
    go_ret2
    exact ⟨by rw [E.out]; rfl, hb⟩
  · have e : getV L m = (L[i].2, true) := by unfold getV; rw [hf]
    have E := Lib.hid e
    obtain ⟨ao', cap', e1, _, _, _, hcl⟩ := HR.out.below hb
    injection e1 with e2 e3 e4
    subst e2
    obtain ⟨b, off, rfl, hbb, hcc⟩ := hcl (by omega)
    obtain ⟨f1, f2⟩ := hcc i hi
    clear e hf hr hcc hcl
    go_wp2
    go_ret2
    exact ⟨by rw [E.out]; rfl, hb⟩

end Go.Proofs.YtgjemgilanhdiaaGreatDoor
namespace Go.Proofs.YtgjemgilanhdiaaGreatDoor
open Go.RowKit Go.Sort Go.Shelf
set_option linter.unusedVariables false
set_option linter.unusedSimpArgs false

theorem askR_no {L : List Rt} {s : St} {h : List UInt8} (hn : ¬ (rightRt L = true ∧ startOk s = true ∧ s.c = 0)) : askR L s h = (UU.nil, [], 1) := by unfold askR; rw [if_neg hn]
theorem askR_yes {L : List Rt} {s : St} {h : List UInt8} (hy : rightRt L = true ∧ startOk s = true ∧ s.c = 0) {q : List UInt8} (hq : askT s.t h = q) {u : UU} {e : Int} (hp : parseL q = (u, e)) {o : List UInt8} {g : Int} (hf : findR L u.h u.p = (o, g)) :
    askR L s h = if e ≠ 0 then (UU.nil, [], 20) else if g ≠ 0 then (UU.nil, [], g) else (u, o, 0) := by
  unfold askR
  rw [if_pos hy, hq, hp]
  simp only
  rw [hf]
def askV (x : UU × List UInt8 × Int) : Value := .tuple #[x.1.v, .string (S x.2.1), .int .i64 x.2.2]
theorem getV_len {F : List Fld} {n : List UInt8} {K : Nat} (hfs : ∀ f ∈ F, f.2.length ≤ K) : (getV F n).1.length ≤ K := by
  unfold getV
  cases hf : F.find? (fun f => sameN f.1 n) with
  | none => simp
  | some f => exact hfs f (List.mem_of_find?_eq_some hf)

end Go.Proofs.YtgjemgilanhdiaaGreatDoor
