/- Names that are the same; table.Get: the walks. -/
import Derived.Test.YtcfihoniocamaaaDoorTableAdd
namespace Go.Proofs.YtcfihoniocamaaaDoor
open Go.RowKit Go.Sort Go.Shelf
set_option linter.unusedVariables false

theorem IdxIs.find {p : Fld → Bool} {L : List Fld} {r : Int} (h : IdxIs p L r) : (r = -1 ∧ L.find? p = none) ∨ ∃ i : Nat, r = i ∧ ∃ h : i < L.length, L.find? p = some L[i] := by
  rcases h with ⟨rfl, h⟩ | ⟨i, rfl, hi, h1, h2⟩
  · refine .inl ⟨rfl, List.find?_eq_none.2 fun f hf => ?_⟩
    obtain ⟨j, hj, rfl⟩ := List.getElem_of_mem hf
    simp [h j hj]
  · refine .inr ⟨i, rfl, hi, ?_⟩
    rw [List.find?_eq_some_iff_getElem]
    exact ⟨h1, i, hi, rfl, fun j hj => by simp [h2 j (by omega) hj]⟩

/-- The closure that tells a name, its variable in block g. -/
def isNamed (g : Nat) : Value := .func (.func 94) #[] #[.pointer (some ⟨g, 0, none⟩)]

theorem named (m : List UInt8) (w : World) : Calls Tryd.prog 76 #[.string (S m)] w fun e w' =>
    e = .returned (isNamed w.heap.size) ∧ w'.cell? ⟨w.heap.size, 0, none⟩ = some (.string (S m)) ∧ w.heap.size < w'.heap.size ∧ Below w.heap.size w w' := by
  unfold isNamed
  go_enter Tryd.func76, Tryd.ntmps76
  go_wp2
  go_ret
  exact ⟨rfl, by simp, by simp, by (repeat (first | (with_reducible exact Below.refl _ _) | (with_reducible assumption) | (with_reducible refine Below.drew ?_) | (focus ((with_reducible refine Below.setCell ?_ ?_ _); rotate_left; (first | omega | (simp <;> omega)))) | (focus ((with_reducible refine Below.alloc ?_ ?_ _); rotate_left; (first | omega | (simp <;> omega)))) | exact Below.refl _ _ | assumption | refine Below.drew ?_ | refine Below.alloc ?_ (by first | omega | (simp <;> omega)) _ | refine Below.setCell ?_ (by first | omega | (simp <;> omega)) _))⟩

theorem named1 (f : Fld) (hf : Small f) (g : Nat) (m : List UInt8) (hm : m.length ≤ 4611686018427387903) (w : World) (hc : w.cell? ⟨g, 0, none⟩ = some (.string (S m))) (hg : g < w.heap.size) :
    Calls Tryd.prog 94 #[fv f, .pointer (some ⟨g, 0, none⟩)] w fun e w' => e = .returned (.bool (sameN f.1 m)) ∧ Below w.heap.size w w' := by
  obtain ⟨n, v⟩ := f
  have C := Lib.hid (fun W => textSame n m (by have := hf.1; simp only at this; omega) (by omega) W)
  unfold fv sameN
  simp only
  have hfar := far hg
  obtain ⟨b, hb⟩ : ∃ b, (lower n == lower m) = b := ⟨_, rfl⟩
  rw [hb] at C ⊢
  clear hb hf hm
  go_enter Tryd.func94, Tryd.ntmps94
  go_wp2_with (go_at_call 95; refine (C.out _).mono ?_; rintro e w1 ⟨rfl, hb⟩; have hbw := Below.trans (show Below w.heap.size w _ by (repeat (first | (with_reducible exact Below.refl _ _) | (with_reducible assumption) | (with_reducible refine Below.drew ?_) | (focus ((with_reducible refine Below.setCell ?_ ?_ _); rotate_left; (first | omega | (simp <;> omega)))) | (focus ((with_reducible refine Below.alloc ?_ ?_ _); rotate_left; (first | omega | (simp <;> omega)))) | exact Below.refl _ _ | assumption | refine Below.drew ?_ | refine Below.alloc ?_ (by first | omega | (simp <;> omega)) _ | refine Below.setCell ?_ (by first | omega | (simp <;> omega)) _))) (hb.mono (by (first | omega | (simp <;> omega)))))
  go_ret
  exact ⟨rfl, hbw⟩

/-- Where a row has a name. -/
theorem idxNamed (v : Value) (L : List Fld) (g : Nat) (m : List UInt8) (hm : m.length ≤ 4611686018427387903) (W : World) (hr : ReadsF W v L) (hs : ∀ f ∈ L, Small f) (hc : W.cell? ⟨g, 0, none⟩ = some (.string (S m))) (hg : g < W.heap.size) :
    Calls Tryd.prog 61 #[v, isNamed g] W fun e w' => ∃ r, e = .returned (.int .i64 r) ∧ IdxIs (fun f => sameN f.1 m) L r ∧ Below W.heap.size W w' :=
  idxFld 94 #[.pointer (some ⟨g, 0, none⟩)] (fun f => sameN f.1 m) (enters_of Tryd.func94 (by kernel_rfl) rfl) v L W hr
    (fun f hf W' hb => named1 f (hs f hf) g m hm W' (by rw [hb.cell (p := ⟨g, 0, none⟩) hg]; exact hc) (Nat.lt_of_lt_of_le hg hb.size))


end Go.Proofs.YtcfihoniocamaaaDoor
