/- Names that are the same; table.Get: the walks. -/
import Derived.Test.YtbdfidilmaefhaaDoorTableAdd
namespace Go.Proofs.YtbdfidilmaefhaaDoor
open Go.RowKit Go.Sort Go.Shelf
set_option linter.unusedVariables false

theorem IdxIs.find {p : Fld → Bool} {L : List Fld} {r : Int} (h : IdxIs p L r) : (r = -1 ∧ L.find? p = none) ∨ ∃ i : Nat, r = i ∧ ∃ h : i < L.length, L.find? p = some L[i] := by
  rcases h with ⟨rfl, h⟩ | ⟨i, rfl, hi, h1, h2⟩
  · refine .inl ⟨rfl, List.find?_eq_none.2 fun f hf => ?_⟩
    obtain ⟨j, hj, rfl⟩ := List.getElem_of_mem hf
    simp [h j hj]
  · refine .inr ⟨i, rfl, hi, ?_⟩
    rw [List.find?_eq_some_iff_getElem]
    exact ⟨h1, i, hi, rfl, fun j hj => by simp [h2 j (by omega) hj]⟩

/-- The closure that tells a name, its variable in block g. -/
def isNamed (g : Nat) : Value := .func (.func 45) #[] #[.pointer (some ⟨g, 0, none⟩)]

theorem named (m : List UInt8) (w : World) : Calls Tryd.prog 32 #[.string (S m)] w fun e w' =>
    e = .returned (isNamed w.heap.size) ∧ w'.cell? ⟨w.heap.size, 0, none⟩ = some (.string (S m)) ∧ w.heap.size < w'.heap.size ∧ Below w.heap.size w w' := by
  unfold isNamed
  go_enter Tryd.func32, Tryd.ntmps32
  go_wp2
  go_ret
  exact ⟨rfl, by simp, by simp, by (repeat (first | exact Below.refl _ _ | assumption | refine Below.drew ?_ | refine Below.alloc ?_ (by first | omega | (simp <;> omega)) _ | refine Below.setCell ?_ (by first | omega | (simp <;> omega)) _))⟩

theorem named1 (f : Fld) (hf : Small f) (g : Nat) (m : List UInt8) (hm : m.length ≤ 4611686018427387903) (w : World) (hc : w.cell? ⟨g, 0, none⟩ = some (.string (S m))) (hg : g < w.heap.size) :
    Calls Tryd.prog 45 #[fv f, .pointer (some ⟨g, 0, none⟩)] w fun e w' => e = .returned (.bool (sameN f.1 m)) ∧ Below w.heap.size w w' := by
  obtain ⟨n, v⟩ := f
  have C := Lib.hid (fun W => textSame n m (by have := hf.1; simp only at this; omega) (by omega) W)
  unfold fv sameN
  simp only
  have hfar := far hg
  obtain ⟨b, hb⟩ : ∃ b, (lower n == lower m) = b := ⟨_, rfl⟩
  rw [hb] at C ⊢
  clear hb hf hm
  go_enter Tryd.func45, Tryd.ntmps45
  go_wp2_with (go_at_call 46; refine (C.out _).mono ?_; rintro e w1 ⟨rfl, hb⟩; have hbw := Below.trans (show Below w.heap.size w _ by (repeat (first | exact Below.refl _ _ | assumption | refine Below.drew ?_ | refine Below.alloc ?_ (by first | omega | (simp <;> omega)) _ | refine Below.setCell ?_ (by first | omega | (simp <;> omega)) _))) (hb.mono (by (first | omega | (simp <;> omega)))))
  go_ret
  exact ⟨rfl, hbw⟩

/-- Where a row has a name. -/
theorem idxNamed (v : Value) (L : List Fld) (g : Nat) (m : List UInt8) (hm : m.length ≤ 4611686018427387903) (W : World) (hr : ReadsF W v L) (hs : ∀ f ∈ L, Small f) (hc : W.cell? ⟨g, 0, none⟩ = some (.string (S m))) (hg : g < W.heap.size) :
    Calls Tryd.prog 31 #[v, isNamed g] W fun e w' => ∃ r, e = .returned (.int .i64 r) ∧ IdxIs (fun f => sameN f.1 m) L r ∧ Below W.heap.size W w' :=
  idxFld 45 #[.pointer (some ⟨g, 0, none⟩)] (fun f => sameN f.1 m) (enters_of Tryd.func45 (by kernel_rfl) rfl) v L W hr
    (fun f hf W' hb => named1 f (hs f hf) g m hm W' (by rw [hb.cell (p := ⟨g, 0, none⟩) hg]; exact hc) (Nat.lt_of_lt_of_le hg hb.size))

/-- What getting gives. -/
def getV (L : List Fld) (m : List UInt8) : List UInt8 × Bool := match L.find? (fun f => sameN f.1 m) with
  | some f => (f.2, true)
  | none => ([], false)

set_option maxHeartbeats 1600000 in
set_option maxRecDepth 100000 in
theorem tableGet (v : Value) (L : List Fld) (m : List UInt8) (hm : m.length ≤ 4611686018427387903) (w : World) (hr : ReadsF w v L) (hs : ∀ f ∈ L, Small f) :
    Calls Tryd.prog 13 #[v, .string (S m)] w fun e w' => e = .returned (.tuple #[.string (S (getV L m).1), .bool (getV L m).2]) ∧ Below w.heap.size w w' := by
  have C := Lib.hid (fun W (hb : Below w.heap.size w W) g hc hg => idxNamed v L g m hm W (hr.below hb) hs hc hg)
  have HR := Lib.hid hr
  obtain ⟨ao, cap, rfl, hc1, hc2, _, _⟩ := hr
  have hm' : maxLen = 9223372036854775807 := rfl
  rw [hm'] at hc2
  clear hm' hs hm
  have h0 := Below.refl w.heap.size w
  go_enter Tryd.func13, Tryd.ntmps13
  go_wp2_with fail
  refine (named m w).mono ?_
  rintro e w1 ⟨rfl, hcell, hlt, hb1⟩
  go_wp2_with fail
  refine (C.out w1 hb1 w.heap.size hcell hlt).mono ?_
  rintro e w2 ⟨r, rfl, hr, hb2⟩
  have hb := hb1.trans (hb2.mono (Nat.le_of_lt hlt))
  rcases hr.find with ⟨rfl, hf⟩ | ⟨i, rfl, hi, hf⟩
  · have e : getV L m = ([], false) := by unfold getV; rw [hf]
    have E := Lib.hid e
    clear e hf hr
    go_wp2
    go_ret2
    exact ⟨by rw [E.out]; rfl, hb⟩
  · have e : getV L m = (L[i].2, true) := by unfold getV; rw [hf]
    have E := Lib.hid e
    obtain ⟨ao', cap', e1, _, _, _, hcl⟩ := HR.out.below hb
    injection e1 with e2 e3 e4
    subst e2
    obtain ⟨b, off, rfl, hbb, hcc⟩ := hcl (by omega)
    obtain ⟨f1, f2⟩ := hcc i hi
    clear e hf hr hcc hcl
    go_wp2
    go_ret2
    exact ⟨by rw [E.out]; rfl, hb⟩

theorem mayL_a1 : mayL ([97], [49]) = true := by decide
theorem alive (w : World) : Calls Tryd.prog 10 #[] w fun e w' => e = .returned (.bool true) ∧ Below w.heap.size w w' := by
  have hsm : Small ([97], [49]) := ⟨by decide, by decide⟩
  have e1 : addE [] ([97], [49]) = 0 := by unfold addE; rw [if_pos ⟨by decide, mayL_a1⟩]; rfl
  have e2 : addL [] ([97], [49]) = [([97], [49])] := by unfold addL; rw [e1]; rfl
  have e3 : getV [([97], [49])] [65] = ([49], true) := by decide
  have C1 := tableAdd (.slice none 0 0) [] [97] [49] w (ReadsF.nil w) (fun f hf => by cases hf) hsm
  unfold AddTo at C1
  rw [e1, e2] at C1
  go_enter Tryd.func10, Tryd.ntmps10
  go_wp2_with fail
  refine C1.mono ?_
  rintro e w1 ⟨v, hown, rfl, hb1⟩
  have C2 := tableGet v [([97], [49])] [65] (by decide) w1 hown.reads (fun f hf => by simp at hf; subst hf; exact hsm)
  rw [e3] at C2
  clear hown C1
  go_wp2_with fail
  refine C2.mono ?_
  rintro e w2 ⟨rfl, hb2⟩
  have hb := hb1.trans (hb2.mono hb1.size)
  go_wp2
  go_ret
  exact ⟨rfl, hb⟩
end Go.Proofs.YtbdfidilmaefhaaDoor
