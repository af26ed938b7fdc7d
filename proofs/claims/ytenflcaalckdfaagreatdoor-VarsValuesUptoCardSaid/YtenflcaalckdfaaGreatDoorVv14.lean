/- Where a row of pairs has one of some kind: slices.IndexFunc at pairs; pairs.Find, the document's Find: the walks. Append of one text to a row that the call has built: what else stays. -/
import Derived.Test.YtenflcaalckdfaaGreatDoorVv8
import Derived.Maps.AppendAt
namespace Go.Proofs.YtenflcaalckdfaaGreatDoor
open Go.RowKit Go.Sort Go.Shelf
set_option linter.unusedVariables false
def fv (f : Fld) : Value := .agg #[.string (S f.1), .string (S f.2)]

def IdxIs (p : Fld → Bool) (L : List Fld) (r : Int) : Prop :=
  (r = -1 ∧ ∀ j (h : j < L.length), p L[j] = false) ∨ ∃ i : Nat, r = i ∧ ∃ h : i < L.length, p L[i] = true ∧ ∀ j (h : j < L.length), j < i → p L[j] = false
theorem IdxIs.any {p : Fld → Bool} {L : List Fld} {r : Int} (h : IdxIs p L r) : decide (0 ≤ r) = L.any p := by
  rcases h with ⟨rfl, h⟩ | ⟨i, rfl, hi, h1, _⟩
  · symm
    simp only [Int.reduceNeg, Int.reduceLE, decide_false]
    rw [List.any_eq_false]
    intro f hf
    obtain ⟨j, hj, rfl⟩ := List.getElem_of_mem hf
    simp [h j hj]
  · rw [List.any_eq_true.2 ⟨_, List.getElem_mem hi, h1⟩]
    simp

set_option maxHeartbeats 1600000 in
theorem idxFld (fn : Nat) (lb : Array Value) (p : Fld → Bool) (eg : ∀ args w, (callFunc fn args).run Tryz.prog w = .ok (.enter fn args) w) (v : Value) (L : List Fld) (W : World) (hr : ReadsF W v L)
    (hcl : ∀ f, f ∈ L → ∀ W', Below W.heap.size W W' → Calls Tryz.prog fn (#[fv f] ++ lb) W' fun e w' => e = .returned (.bool (p f)) ∧ Below W'.heap.size W' w') :
    Calls Tryz.prog 96 #[v, .func (.func fn) #[] lb] W fun e w' => ∃ r, e = .returned (.int .i64 r) ∧ IdxIs p L r ∧ Below W.heap.size W w' := by
  obtain ⟨ao, cap, rfl, hc1, hc2, hc3, hcell⟩ := hr
  have hm : maxLen = 9223372036854775807 := rfl
  rw [hm] at hc2
  have HC := Lib.hid hcell
  have HF := Lib.hid hcl
  clear hm hcell hcl hc3
  go_enter Tryz.func96, Tryz.ntmps96
  go_wp2
  go_loopw [8] (fun iv wr => ∃ i : Nat, iv = .int .i64 i ∧ i ≤ L.length ∧ (∀ j (h : j < L.length), j < i → p L[j] = false) ∧ Below W.heap.size W wr) (fun iv _ => L.length - (intOf iv).toNat)
  case atStart => exact ⟨0, rfl, Nat.zero_le _, fun j _ h => by omega, by (repeat (first | with_reducible exact Below.refl _ _ | with_reducible assumption | with_reducible refine Below.drew ?_ | (with_reducible refine Below.setCell ?_ ?_ _; rotate_left; (first | omega | (simp <;> omega))) | (with_reducible refine Below.alloc ?_ ?_ _; rotate_left; (first | omega | (simp <;> omega))) | exact Below.refl _ _ | assumption))⟩
  case round =>
    obtain ⟨i, rfl, hi, hall, hB⟩ := hrel
    have HA := Lib.hid hall
    have hz := hB.size
    clear hall
    by_cases hlt : i < L.length
    · obtain ⟨b, off, rfl, hb, hcl⟩ := HC.out (by omega)
      obtain ⟨e1, e2⟩ := hcl i hlt
      rw [← hB.cell (p := ⟨b, off + i * 2, none⟩) hb] at e1
      rw [← hB.cell (p := ⟨b, off + i * 2 + 1, none⟩) hb] at e2
      have hcall := HF.out L[i] (List.getElem_mem hlt) wr hB
      have HYES := Lib.hid (show p L[i] = true → IdxIs p L i from fun h => .inr ⟨i, rfl, hlt, h, HA.out⟩)
      have HNO := Lib.hid (show p L[i] = false → ∀ j (h : j < L.length), j < i + 1 → p L[j] = false from fun h j hj hji => by
        by_cases e : j = i
        · subst e; exact h
        · exact HA.out j hj (by omega))
      obtain ⟨⟨n, x⟩, hf⟩ : ∃ f, L[i] = f := ⟨_, rfl⟩
      rw [hf] at e1 e2 hcall HYES HNO
      obtain ⟨y, hy⟩ : ∃ y, p (n, x) = y := ⟨_, rfl⟩
      rw [hy] at hcall HYES HNO
      have hcall : Calls Tryz.prog fn (#[.agg #[.string (S n), .string (S x)]] ++ lb) wr fun e w' => e = .returned (.bool y) ∧ Below wr.heap.size wr w' := hcall
      simp only at e1 e2
      clear hcl hf hy
      cases y with
      | true =>
        go_wp2_with (go_at_fn fn; refine hcall.mono ?_; rintro e w' ⟨rfl, hb1⟩)
        go_ret
        exact ⟨_, rfl, HYES.out trivial, hB.trans (hb1.mono hz)⟩
      | false =>
        go_wp2_with (go_at_fn fn; refine hcall.mono ?_; rintro e w' ⟨rfl, hb1⟩)
        go_roundw
        case rel => exact ⟨i + 1, by go_num, by omega, HNO.out trivial, hB.trans (hb1.mono hz)⟩
        case measure => simp [intOf]; omega
    · have H := Lib.hid (show IdxIs p L (-1) from .inl ⟨rfl, fun j hj => HA.out j hj (by omega)⟩)
      go_wp2
      go_ret
      exact ⟨_, rfl, H.out, hB⟩

theorem IdxIs.find {p : Fld → Bool} {L : List Fld} {r : Int} (h : IdxIs p L r) : (r = -1 ∧ L.find? p = none) ∨ ∃ i : Nat, r = i ∧ ∃ h : i < L.length, L.find? p = some L[i] := by
  rcases h with ⟨rfl, h⟩ | ⟨i, rfl, hi, h1, h2⟩
  · refine .inl ⟨rfl, List.find?_eq_none.2 fun f hf => ?_⟩
    obtain ⟨j, hj, rfl⟩ := List.getElem_of_mem hf
    simp [h j hj]
  · refine .inr ⟨i, rfl, hi, ?_⟩
    rw [List.find?_eq_some_iff_getElem]
    exact ⟨h1, i, hi, rfl, fun j hj => by simp [h2 j (by omega) hj]⟩


def findV (L : List Fld) (m : List UInt8) : List UInt8 × Bool := match L.find? (fun f => f.1 == m) with
  | some f => (f.2, true)
  | none => ([], false)

theorem find1 (f : Fld) (g : Nat) (m : List UInt8) (w : World) (hc : w.cell? ⟨g, 0, none⟩ = some (.string (S m))) (hg : g < w.heap.size) :
    Calls Tryz.prog 97 #[fv f, .pointer (some ⟨g, 0, none⟩)] w fun e w' => e = .returned (.bool (f.1 == m)) ∧ Below w.heap.size w w' := by
  obtain ⟨n, v⟩ := f
  unfold fv
  simp only
  have hfar := far hg
  obtain ⟨b, hb⟩ : ∃ b, (n == m) = b := ⟨_, rfl⟩
  rw [hb]
  go_enter Tryz.func97, Tryz.ntmps97
  go_wp2
  go_ret
  exact ⟨ret_bool (by first | rfl | simp [*]), by (repeat (first | with_reducible exact Below.refl _ _ | with_reducible assumption | with_reducible refine Below.drew ?_ | (with_reducible refine Below.setCell ?_ ?_ _; rotate_left; (first | omega | (simp <;> omega))) | (with_reducible refine Below.alloc ?_ ?_ _; rotate_left; (first | omega | (simp <;> omega))) | exact Below.refl _ _ | assumption))⟩

set_option maxHeartbeats 1600000 in
set_option maxRecDepth 100000 in
theorem pairsFind (v : Value) (L : List Fld) (m : List UInt8) (w : World) (hr : ReadsF w v L) :
    Calls Tryz.prog 62 #[v, .string (S m)] w fun e w' => e = .returned (.tuple #[.string (S (findV L m).1), .bool (findV L m).2]) ∧ Below w.heap.size w w' := by
  have hb0 : Below w.heap.size w (w.alloc (.cells #[.string (S m)] 9)) := by (repeat (first | with_reducible exact Below.refl _ _ | with_reducible assumption | with_reducible refine Below.drew ?_ | (with_reducible refine Below.setCell ?_ ?_ _; rotate_left; (first | omega | (simp <;> omega))) | (with_reducible refine Below.alloc ?_ ?_ _; rotate_left; (first | omega | (simp <;> omega))) | exact Below.refl _ _ | assumption))
  have C := Lib.hid (idxFld 97 #[.pointer (some ⟨w.heap.size, 0, none⟩)] (fun f => f.1 == m) (enters_of Tryz.func97 (by kernel_rfl) rfl) v L (w.alloc (.cells #[.string (S m)] 9)) (hr.below hb0)
    (fun f hf W' hb => find1 f w.heap.size m W' (by rw [hb.cell (p := ⟨w.heap.size, 0, none⟩) (by simp)]; simp) (by have := hb.size; simp at this; omega)))
  have HR := Lib.hid hr
  obtain ⟨ao, cap, rfl, hc1, hc2, _, _⟩ := hr
  have hm' : maxLen = 9223372036854775807 := rfl
  rw [hm'] at hc2
  clear hm'
  go_enter Tryz.func62, Tryz.ntmps62
  go_wp2_with fail
  refine Calls.mono C.out ?_
  rintro e w2 ⟨r, rfl, hr, hb2⟩
  have hb : Below w.heap.size w w2 := Below.trans hb0 (hb2.mono (by simp))
  rcases hr.find with ⟨rfl, hf⟩ | ⟨i, rfl, hi, hf⟩
  · have e : findV L m = ([], false) := by unfold findV; rw [hf]
    have E := Lib.hid e
    clear e hf hr
    go_wp2
    go_ret2
    exact ⟨by rw [E.out]; rfl, hb⟩
  · have e : findV L m = (L[i].2, true) := by unfold findV; rw [hf]
    have E := Lib.hid e
    obtain ⟨ao', cap', e1, _, _, _, hcl⟩ := HR.out.below hb
    injection e1 with e2 e3 e4
    subst e2
    obtain ⟨b, off, rfl, hbb, hcc⟩ := hcl (by omega)
    obtain ⟨f1, f2⟩ := hcc i hi
    clear e hf hr hcc hcl
    go_wp2
    go_ret2
    exact ⟨by rw [E.out]; rfl, hb⟩
set_option maxHeartbeats 1600000 in
theorem refPFind (v : Value) (L : List Fld) (m : List UInt8) (w : World) (hr : ReadsF w v L) :
    Calls Tryz.prog 33 #[v, .string (S m)] w fun e w' => e = .returned (.tuple #[.string (S (findV L m).1), .bool (findV L m).2]) ∧ Below w.heap.size w w' := by
  obtain ⟨ao, cap, rfl, hc1, hc2, _, hcell⟩ := hr
  have hm' : maxLen = 9223372036854775807 := rfl
  rw [hm'] at hc2
  have HC := Lib.hid hcell
  have HF := Lib.hid (fun (k : Nat) (hk : k < L.length) (h : ∀ j (hj : j < L.length), j < k → (L[j].1 == m) = false) (h2 : (L[k].1 == m) = true) => (show findV L m = (L[k].2, true) from by
    unfold findV
    rw [(List.find?_eq_some_iff_getElem (p := fun f : Fld => f.1 == m)).2 ⟨h2, k, hk, rfl, fun j hj => by simp [h j (by omega) hj]⟩]))
  have HN := Lib.hid (fun (h : ∀ j (hj : j < L.length), (L[j].1 == m) = false) => (show findV L m = ([], false) from by
    unfold findV
    rw [List.find?_eq_none.2 fun f hf => by obtain ⟨j, hj, rfl⟩ := List.getElem_of_mem hf; simp [h j hj]]))
  obtain ⟨⟨x, y⟩, hxy⟩ : ∃ q, findV L m = q := ⟨_, rfl⟩
  rw [hxy] at HF HN ⊢
  simp only
  clear hm' hcell hxy
  go_enter Tryz.func33, Tryz.ntmps33
  go_wp2
  go_loopw [10] (fun iv wr => ∃ i : Nat, iv = .int .i64 i ∧ i ≤ L.length ∧ (∀ j (h : j < L.length), j < i → (L[j].1 == m) = false) ∧ Below w.heap.size w wr) (fun iv _ => L.length - (intOf iv).toNat)
  case atStart => exact ⟨0, rfl, Nat.zero_le _, fun j _ h => by omega, by (repeat (first | with_reducible exact Below.refl _ _ | with_reducible assumption | with_reducible refine Below.drew ?_ | (with_reducible refine Below.setCell ?_ ?_ _; rotate_left; (first | omega | (simp <;> omega))) | (with_reducible refine Below.alloc ?_ ?_ _; rotate_left; (first | omega | (simp <;> omega))) | exact Below.refl _ _ | assumption))⟩
  case round =>
    obtain ⟨i, rfl, hi, hall, hB⟩ := hrel
    have HA := Lib.hid hall
    have hz := hB.size
    clear hall
    by_cases hlt : i < L.length
    · obtain ⟨b, off, rfl, hb, hcl⟩ := HC.out (by omega)
      obtain ⟨e1, e2⟩ := hcl i hlt
      rw [← hB.cell (p := ⟨b, off + i * 2, none⟩) hb] at e1
      rw [← hB.cell (p := ⟨b, off + i * 2 + 1, none⟩) hb] at e2
      have HYES := Lib.hid (fun h => HF.out i hlt HA.out h)
      have HNO := Lib.hid (show (L[i].1 == m) = false → ∀ j (h : j < L.length), j < i + 1 → (L[j].1 == m) = false from fun h j hj hji => by
        by_cases e : j = i
        · subst e; exact h
        · exact HA.out j hj (by omega))
      obtain ⟨⟨n, u⟩, hf⟩ : ∃ f, L[i] = f := ⟨_, rfl⟩
      rw [hf] at e1 e2 HYES HNO
      simp only at e1 e2 HYES HNO
      obtain ⟨q, hq⟩ : ∃ q, (n == m) = q := ⟨_, rfl⟩
      rw [hq] at HYES HNO
      clear hcl hf
      cases q with
      | true =>
        have hr := HYES.out rfl
        injection hr with r1 r2
        subst r1 r2
        go_wp2
        go_ret2
        exact ⟨rfl, by (repeat (first | with_reducible exact Below.refl _ _ | with_reducible assumption | with_reducible refine Below.drew ?_ | (with_reducible refine Below.setCell ?_ ?_ _; rotate_left; (first | omega | (simp <;> omega))) | (with_reducible refine Below.alloc ?_ ?_ _; rotate_left; (first | omega | (simp <;> omega))) | exact Below.refl _ _ | assumption))⟩
      | false =>
        have HNN := Lib.hid (HNO.out rfl)
        go_wp2
        go_roundw
        case rel => exact ⟨i + 1, by go_num, by omega, HNN.out, by (repeat (first | with_reducible exact Below.refl _ _ | with_reducible assumption | with_reducible refine Below.drew ?_ | (with_reducible refine Below.setCell ?_ ?_ _; rotate_left; (first | omega | (simp <;> omega))) | (with_reducible refine Below.alloc ?_ ?_ _; rotate_left; (first | omega | (simp <;> omega))) | exact Below.refl _ _ | assumption))⟩
        case measure => simp [intOf]; omega
    · obtain rfl : i = L.length := by omega
      have hr := HN.out (fun j hj => HA.out j hj hj)
      injection hr with r1 r2
      subst r1 r2
      go_wp2
      go_ret2
      exact ⟨rfl, hB⟩
end Go.Proofs.YtenflcaalckdfaaGreatDoor
namespace Go.Proofs.YtenflcaalckdfaaGreatDoor
open Go.RowKit
set_option linter.unusedVariables false

theorem wp_append_text_at {ops : Array Oper} {rest : List Oper} {o : Oper} {a : Act} {Q : Exit → Act → World → Prop} (hgd : o.guard = none) (s x : Operand)
    (ho : o.op = .call { callee := .builtin .append, args := #[s, x], argTypes := #[68, 68] })
    (W : World) (B : Nat) (v : Value) (L : List (List UInt8)) (l : List UInt8) (hown : Owns W B v L) (hs : a.eval s = v) (g : Nat) (hx : a.eval x = .slice (some ⟨g, 0, none⟩) 1 1) (hg : g = W.heap.size)
    (hn : L.length ≤ 4398046511104) (hB : B ≤ W.heap.size)
    (h : ∀ v' w', Owns w' B v' (L ++ [l]) → Below B W w' → (∀ k, k < W.heap.size → v.ownBlock ≠ some k → w'.heap[k]? = W.heap[k]? ∧ v'.ownBlock ≠ some k) → wpList Tryz.prog ops Q rest (a.put o.dst v') w') : wpList Tryz.prog ops Q (o :: rest) a (W.alloc (.cells #[.string (S l)] 9)) := by
  subst hg
  obtain ⟨i0, hi, hz0, hz1, hz2⟩ := info_parts infoStr
  have hown' : (W.alloc (.cells #[.string (S l)] 9)).ownsRow B 9 1 v L.length (L.map fun x => .string (S x)) := World.ownsRow.alloc hown _
  refine Go.wpList_append_own_at _ hgd s x 68 ho B 9 i0 (.string ⟨#[]⟩) 1 16 Tryz.underlying68 hi hz0 hz1 hz2 rfl (by decide) v L.length _ hs hown' ⟨W.heap.size, 0, none⟩ 1 1 [.string (S l)] hx rfl ?_ ?_ ?_ ?_ ?_ ?_
  · intro j u hj
    match j, hj with
    | 0, hj => simp at hj; subst hj; simp [Addr.add]
  · intro u hu; simp at hu; subst hu; rfl
  · unfold maxLen; omega
  · omega
  · simp; omega
  · intro v' w' h1 h2 _ h4
    refine h v' w' (by unfold Owns; simpa using h1) ?_ (fun k hk hne => ⟨?_, ?_⟩)
    · refine Below.grown (w := W.alloc (.cells #[.string (S l)] 9)) ((Below.refl _ _).alloc hB _) h2 (by simp; omega) ?_
      intro k hk
      have := World.ownsRow.lt hown' k hk
      exact this.1
    · rw [h2.block k (by simp; omega) (fun e => hne e.symm)]
      show (W.heap.push _)[k]? = _
      rw [Array.getElem?_push_lt hk, Array.getElem?_eq_getElem hk]
    · rcases h4 with h4 | h4
      · rw [h4]; exact hne
      · rw [h4]; simp; omega
end Go.Proofs.YtenflcaalckdfaaGreatDoor
