/- table.Add: the walk. Names that are the same; table.Get: the walks. -/
import Derived.Test.YtcfihoniocamaaaGreatDoorPk10
import Derived.Deep.RegionLaw
namespace Go.Proofs.YtcfihoniocamaaaGreatDoor
open Go.RowKit Go.Sort Go.Shelf
set_option linter.unusedVariables false

theorem clipCells {W' : World} {ao : Option Addr} {cap : Nat} {L : List Fld} (hr : ReadsF W' (.slice ao L.length cap) L) : ∀ b, ao = some b → ∀ j u, (L.flatMap fcells)[j]? = some u → W'.cell? (b.add j) = some u := by
  obtain ⟨ao', cap', e1, e2, e3, e4, e5⟩ := hr
  injection e1 with e6 e7 e8
  subst e6
  intro b hb j u hj
  have hlen := flat_len L
  have hj2 : j < L.length * 2 := by
    rcases Nat.lt_or_ge j (L.length * 2) with h' | h'
    · exact h'
    · rw [List.getElem?_eq_none (by omega)] at hj; cases hj
  obtain ⟨b0, off, e9, e10, e11⟩ := e5 (by omega)
  rw [hb] at e9
  cases e9
  obtain ⟨c1, c2⟩ := e11 (j / 2) (by omega)
  obtain ⟨d1, d2⟩ := flat_at L (j / 2) (by omega)
  have hadd : ((⟨b0, off, none⟩ : Addr).add j) = ⟨b0, off + j, none⟩ := by
    unfold Addr.add; split
    · rename_i e; subst e; rfl
    · rfl
  rw [hadd]
  rcases Nat.mod_two_eq_zero_or_one j with hm | hm
  · have : j = j / 2 * 2 := by omega
    rw [← this] at c1 d1
    rw [c1, ← d1]; exact hj
  · have : j = j / 2 * 2 + 1 := by omega
    rw [Nat.add_assoc, ← this] at c2
    rw [← this] at d2
    rw [c2, ← d2]; exact hj
theorem pairCells {W' : World} {g : Nat} {f : Fld} (h1 : W'.cell? ⟨g, 0, none⟩ = some (.string (S f.1))) (h2 : W'.cell? ⟨g, 1, none⟩ = some (.string (S f.2))) : ∀ j u, (fcells f)[j]? = some u → W'.cell? ((⟨g, 0, none⟩ : Addr).add j) = some u := by
  intro j u hj
  match j, hj with
  | 0, hj => simp [fcells] at hj; subst hj; simpa [Addr.add] using h1
  | 1, hj => simp [fcells] at hj; subst hj; simpa [Addr.add] using h2

/-- 'append(slices.Clip(l), f)' as a step of a region that draws: a new row. -/
theorem step_append_clip {ops : Array Oper} {o : Oper} {a : Act} {K : Act → World → Prop} {Q : Exit → Act → World → Prop} {E : Prop} (hgd : o.guard = none) (s x : Operand)
    (ho : o.op = .call { callee := .builtin .append, args := #[s, x], argTypes := #[22, 22] })
    (W : World) (ao : Option Addr) (cap : Nat) (L : List Fld) (f : Fld) (hr : ReadsF W (.slice ao L.length cap) L) (hs : a.eval s = .slice ao L.length L.length) (g : Nat) (hx : a.eval x = .slice (some ⟨g, 0, none⟩) 1 1)
    (hc1 : W.cell? ⟨g, 0, none⟩ = some (.string (S f.1))) (hc2 : W.cell? ⟨g, 1, none⟩ = some (.string (S f.2))) (hn : L.length ≤ 2199023255552)
    (h : ∀ v' w', OwnsF w' W.heap.size v' (L ++ [f]) → Below W.heap.size W w' → K (a.put o.dst v') w') : if Region.wanted o (yielded ops a.tmps) = true then Oper.wp Tryz.prog o a W K Q else E := by
  have hw : Region.wanted o (yielded ops a.tmps) = true := by simp [Region.wanted, hgd]
  rw [if_pos hw]
  obtain ⟨i0, hi, hz0, hz1, hz2⟩ := info_parts infoFld
  have hcells := clipCells hr
  obtain ⟨ao', cap', e1, e2, e3, e4, e5⟩ := hr
  injection e1 with e6 e7 e8
  subst e6
  have h1c : ∀ u ∈ fcells f, u.oneCell' = true := by intro u hu; simp [fcells] at hu; rcases hu with rfl | rfl <;> rfl
  cases ao with
  | some b =>
    obtain ⟨v', w', hrun, r1, r2⟩ := run_append_arg_grows (P := Tryz.prog) W 22 o.type 54 i0 (.agg #[.string ⟨#[]⟩, .string ⟨#[]⟩]) 2 32 Tryz.underlying22 hi hz0 hz1 hz2 rfl (by decide) b L.length L.length (L.flatMap fcells) (flat_len L) (hcells b rfl) ⟨g, 0, none⟩ 1 1 (fcells f) rfl (pairCells hc1 hc2) (by omega) (by unfold maxLen; omega) (by omega)
    unfold Oper.wp
    simp [execOp, ho, resolve, invoke, builtin, hs, hx, hrun, Result.andThen]
    exact h _ _ (by unfold OwnsF; simpa using r1) (Below.grown (Below.refl _ _) r2 (Nat.le_refl _) (fun k hk => by cases hk))
  | none =>
    have hz : L.length = 0 := by have := e4 rfl; omega
    obtain rfl : L = [] := List.length_eq_zero_iff.1 hz
    obtain ⟨v', w', hrun, r1, r2, _⟩ := run_append_own (P := Tryz.prog) W W.heap.size 22 o.type 54 i0 (.agg #[.string ⟨#[]⟩, .string ⟨#[]⟩]) 2 32 Tryz.underlying22 hi hz0 hz1 hz2 rfl (by decide) (.slice none 0 0) 0 [] (World.ownsRow_nil W _ _ _) ⟨g, 0, none⟩ 1 1 (fcells f) rfl (pairCells hc1 hc2) h1c (by decide) (by decide) (Nat.le_refl _)
    unfold Oper.wp
    simp [execOp, ho, resolve, invoke, builtin, hs, hx, hrun, Result.andThen]
    exact h _ _ (by unfold OwnsF; simpa using r1) (Below.grown (Below.refl _ _) r2 (Nat.le_refl _) (fun k hk => by cases hk))

theorem clip (ao : Option Addr) (n cap : Nat) (h : n ≤ cap) (hm : cap ≤ 9223372036854775807) (w : World) : Calls Tryz.prog 83 #[.slice ao n cap] w fun e w' => e = .returned (.slice ao n n) ∧ w' = w := by
  go_enter Tryz.func83, Tryz.ntmps83
  go_wp2
  go_ret
  exact ⟨rfl, rfl⟩

/-- What adding answers. -/
def AddTo (w : World) (L : List Fld) (f : Fld) (e : Ending) (w' : World) : Prop := ∃ v, OwnsF w' w.heap.size v (addL L f) ∧ e = .returned (.tuple #[v, .int .i64 (addE L f)]) ∧ Below w.heap.size w w'

set_option maxHeartbeats 3200000 in
set_option maxRecDepth 100000 in
theorem tableAdd (v : Value) (L : List Fld) (n x : List UInt8) (w : World) (hr : ReadsF w v L) (hs : ∀ f ∈ L, Small f) (hf : Small (n, x)) :
    Calls Tryz.prog 55 #[v, .string (S n), .string (S x)] w fun e w' => AddTo w L (n, x) e w' := by
  have C1 := Lib.hid (fun W (hb : Below w.heap.size w W) => tableRight v L W (hr.below hb) hs)
  have C2 := Lib.hid (fun W => tableMay n x hf.1 hf.2 W)
  have HR := Lib.hid hr
  obtain ⟨ao, cap, rfl, hc1, hc2, _, _⟩ := hr
  have hm : maxLen = 9223372036854775807 := rfl
  rw [hm] at hc2
  have C3 := Lib.hid (fun W => clip ao L.length cap hc1 hc2 W)
  have HA := Lib.hid (show addE L (n, x) = (if rightL L = true ∧ mayL (n, x) = true then (if L.length < 40 then 0 else 4) else 1) from rfl)
  have HL := Lib.hid (show addL L (n, x) = if addE L (n, x) = 0 then L ++ [(n, x)] else [] from rfl)
  unfold fv at C2
  simp only at C2
  obtain ⟨a, ha⟩ : ∃ a, rightL L = a := ⟨_, rfl⟩
  obtain ⟨b, hb⟩ : ∃ b, mayL (n, x) = b := ⟨_, rfl⟩
  rw [ha] at C1 HA
  rw [hb] at C2 HA
  clear hm hs hf ha hb
  have h0 := Below.refl w.heap.size w
  cases a with
  | false =>
    have e1 : addE L (n, x) = 1 := by rw [HA.out]; simp
    have e2 : addL L (n, x) = [] := by rw [HL.out, e1]; rfl
    have E1 := Lib.hid e1
    have E2 := Lib.hid e2
    clear e1 e2
    go_enter Tryz.func55, Tryz.ntmps55
    go_wp2_with (go_at_call 32; refine (C1.out _ (by (repeat (first | (with_reducible exact Below.refl _ _) | (with_reducible assumption) | (with_reducible refine Below.drew ?_) | (focus ((with_reducible refine Below.setCell ?_ ?_ _); rotate_left; (first | omega | (simp <;> omega)))) | (focus ((with_reducible refine Below.alloc ?_ ?_ _); rotate_left; (first | omega | (simp <;> omega)))) | exact Below.refl _ _ | assumption | refine Below.drew ?_ | refine Below.alloc ?_ (by first | omega | (simp <;> omega)) _ | refine Below.setCell ?_ (by first | omega | (simp <;> omega)) _)))).mono ?_; rintro e w1 ⟨rfl, hb⟩; have hbw := Below.trans (show Below w.heap.size w _ by (repeat (first | (with_reducible exact Below.refl _ _) | (with_reducible assumption) | (with_reducible refine Below.drew ?_) | (focus ((with_reducible refine Below.setCell ?_ ?_ _); rotate_left; (first | omega | (simp <;> omega)))) | (focus ((with_reducible refine Below.alloc ?_ ?_ _); rotate_left; (first | omega | (simp <;> omega)))) | exact Below.refl _ _ | assumption | refine Below.drew ?_ | refine Below.alloc ?_ (by first | omega | (simp <;> omega)) _ | refine Below.setCell ?_ (by first | omega | (simp <;> omega)) _))) (hb.mono (by (first | omega | (simp <;> omega)))))
    go_ret2
    exact ⟨_, by rw [E2.out]; exact OwnsF.nil _ _, by rw [E1.out]; rfl, hbw⟩
  | true =>
    cases b with
    | false =>
      have e1 : addE L (n, x) = 1 := by rw [HA.out]; simp
      have e2 : addL L (n, x) = [] := by rw [HL.out, e1]; rfl
      have E1 := Lib.hid e1
      have E2 := Lib.hid e2
      clear e1 e2
      go_enter Tryz.func55, Tryz.ntmps55
      go_wp2_with (first
        | (go_at_call 32; refine (C1.out _ (by (repeat (first | (with_reducible exact Below.refl _ _) | (with_reducible assumption) | (with_reducible refine Below.drew ?_) | (focus ((with_reducible refine Below.setCell ?_ ?_ _); rotate_left; (first | omega | (simp <;> omega)))) | (focus ((with_reducible refine Below.alloc ?_ ?_ _); rotate_left; (first | omega | (simp <;> omega)))) | exact Below.refl _ _ | assumption | refine Below.drew ?_ | refine Below.alloc ?_ (by first | omega | (simp <;> omega)) _ | refine Below.setCell ?_ (by first | omega | (simp <;> omega)) _)))).mono ?_; rintro e w1 ⟨rfl, hb⟩; have hbw := Below.trans (show Below w.heap.size w _ by (repeat (first | (with_reducible exact Below.refl _ _) | (with_reducible assumption) | (with_reducible refine Below.drew ?_) | (focus ((with_reducible refine Below.setCell ?_ ?_ _); rotate_left; (first | omega | (simp <;> omega)))) | (focus ((with_reducible refine Below.alloc ?_ ?_ _); rotate_left; (first | omega | (simp <;> omega)))) | exact Below.refl _ _ | assumption | refine Below.drew ?_ | refine Below.alloc ?_ (by first | omega | (simp <;> omega)) _ | refine Below.setCell ?_ (by first | omega | (simp <;> omega)) _))) (hb.mono (by (first | omega | (simp <;> omega)))); obtain ⟨hcc, hff⟩ := bk hb w.heap.size (by simp); have hz := hb.size; simp at hz)
        | (go_at_call 64; refine (C2.out _).mono ?_; rintro e w2 ⟨rfl, hb2⟩; have hbw2 := hbw.trans (hb2.mono (by (first | omega | (simp <;> omega))))))
      go_ret2
      exact ⟨_, by rw [E2.out]; exact OwnsF.nil _ _, by rw [E1.out]; rfl, hbw2⟩
    | true =>
      by_cases hlen : L.length < 40
      · have e1 : addE L (n, x) = 0 := by rw [HA.out]; simp [hlen]
        have e2 : addL L (n, x) = L ++ [(n, x)] := by rw [HL.out, e1]; rfl
        have E1 := Lib.hid e1
        have E2 := Lib.hid e2
        clear e1 e2
        go_enter Tryz.func55, Tryz.ntmps55
        go_wp2_with (first
          | (go_at_call 32; refine (C1.out _ (by (repeat (first | (with_reducible exact Below.refl _ _) | (with_reducible assumption) | (with_reducible refine Below.drew ?_) | (focus ((with_reducible refine Below.setCell ?_ ?_ _); rotate_left; (first | omega | (simp <;> omega)))) | (focus ((with_reducible refine Below.alloc ?_ ?_ _); rotate_left; (first | omega | (simp <;> omega)))) | exact Below.refl _ _ | assumption | refine Below.drew ?_ | refine Below.alloc ?_ (by first | omega | (simp <;> omega)) _ | refine Below.setCell ?_ (by first | omega | (simp <;> omega)) _)))).mono ?_; rintro e w1 ⟨rfl, hb⟩; have hbw := Below.trans (show Below w.heap.size w _ by (repeat (first | (with_reducible exact Below.refl _ _) | (with_reducible assumption) | (with_reducible refine Below.drew ?_) | (focus ((with_reducible refine Below.setCell ?_ ?_ _); rotate_left; (first | omega | (simp <;> omega)))) | (focus ((with_reducible refine Below.alloc ?_ ?_ _); rotate_left; (first | omega | (simp <;> omega)))) | exact Below.refl _ _ | assumption | refine Below.drew ?_ | refine Below.alloc ?_ (by first | omega | (simp <;> omega)) _ | refine Below.setCell ?_ (by first | omega | (simp <;> omega)) _))) (hb.mono (by (first | omega | (simp <;> omega)))); obtain ⟨hcc, hff⟩ := bk hb w.heap.size (by simp); have hz := hb.size; simp at hz)
          | (go_at_call 64; refine (C2.out _).mono ?_; rintro e w2 ⟨rfl, hb2⟩; have hbw2 := hbw.trans (hb2.mono (by (first | omega | (simp <;> omega)))); obtain ⟨hcc2, hff2⟩ := bk hb2 w.heap.size (by (first | omega | (simp <;> omega))); have hz2 := hb2.size)
          | fail)
        go_region_law (first
          | (refine step_append_clip rfl _ _ rfl _ ao cap L (n, x) (HR.out.below (by (repeat (first | (with_reducible exact Below.refl _ _) | (with_reducible assumption) | (with_reducible refine Below.drew ?_) | (focus ((with_reducible refine Below.setCell ?_ ?_ _); rotate_left; (first | omega | (simp <;> omega)))) | (focus ((with_reducible refine Below.alloc ?_ ?_ _); rotate_left; (first | omega | (simp <;> omega)))) | exact Below.refl _ _ | assumption | refine Below.drew ?_ | refine Below.alloc ?_ (by first | omega | (simp <;> omega)) _ | refine Below.setCell ?_ (by first | omega | (simp <;> omega)) _)))) rfl w2.heap.size rfl (by simp) (by simp) (by omega) ?_; intro v' w3 hown hb3; have hown2 := Lib.hid (OwnsF.base hown (show w.heap.size ≤ _ by (first | omega | (simp <;> omega)))); have hbw3 := Below.trans (show Below w.heap.size w _ by (repeat (first | (with_reducible exact Below.refl _ _) | (with_reducible assumption) | (with_reducible refine Below.drew ?_) | (focus ((with_reducible refine Below.setCell ?_ ?_ _); rotate_left; (first | omega | (simp <;> omega)))) | (focus ((with_reducible refine Below.alloc ?_ ?_ _); rotate_left; (first | omega | (simp <;> omega)))) | exact Below.refl _ _ | assumption | refine Below.drew ?_ | refine Below.alloc ?_ (by first | omega | (simp <;> omega)) _ | refine Below.setCell ?_ (by first | omega | (simp <;> omega)) _))) (hb3.mono (by (first | omega | (simp <;> omega)))); clear hown)
          | (go_simp; go_at_call 83; refine (C3.out _).mono ?_; rintro e w' ⟨rfl, rfl⟩))
        all_goals
          go_wp2
          go_ret2
          exact ⟨_, by rw [E2.out]; exact hown2.out, by rw [E1.out]; rfl, hbw3⟩
      · have e1 : addE L (n, x) = 4 := by rw [HA.out]; simp [hlen]
        have e2 : addL L (n, x) = [] := by rw [HL.out, e1]; rfl
        have E1 := Lib.hid e1
        have E2 := Lib.hid e2
        clear e1 e2
        go_enter Tryz.func55, Tryz.ntmps55
        go_wp2_with (first
          | (go_at_call 32; refine (C1.out _ (by (repeat (first | (with_reducible exact Below.refl _ _) | (with_reducible assumption) | (with_reducible refine Below.drew ?_) | (focus ((with_reducible refine Below.setCell ?_ ?_ _); rotate_left; (first | omega | (simp <;> omega)))) | (focus ((with_reducible refine Below.alloc ?_ ?_ _); rotate_left; (first | omega | (simp <;> omega)))) | exact Below.refl _ _ | assumption | refine Below.drew ?_ | refine Below.alloc ?_ (by first | omega | (simp <;> omega)) _ | refine Below.setCell ?_ (by first | omega | (simp <;> omega)) _)))).mono ?_; rintro e w1 ⟨rfl, hb⟩; have hbw := Below.trans (show Below w.heap.size w _ by (repeat (first | (with_reducible exact Below.refl _ _) | (with_reducible assumption) | (with_reducible refine Below.drew ?_) | (focus ((with_reducible refine Below.setCell ?_ ?_ _); rotate_left; (first | omega | (simp <;> omega)))) | (focus ((with_reducible refine Below.alloc ?_ ?_ _); rotate_left; (first | omega | (simp <;> omega)))) | exact Below.refl _ _ | assumption | refine Below.drew ?_ | refine Below.alloc ?_ (by first | omega | (simp <;> omega)) _ | refine Below.setCell ?_ (by first | omega | (simp <;> omega)) _))) (hb.mono (by (first | omega | (simp <;> omega)))); obtain ⟨hcc, hff⟩ := bk hb w.heap.size (by simp); have hz := hb.size; simp at hz)
          | (go_at_call 64; refine (C2.out _).mono ?_; rintro e w2 ⟨rfl, hb2⟩; have hbw2 := hbw.trans (hb2.mono (by (first | omega | (simp <;> omega))))))
        go_ret2
        exact ⟨_, by rw [E2.out]; exact OwnsF.nil _ _, by rw [E1.out]; rfl, hbw2⟩
end Go.Proofs.YtcfihoniocamaaaGreatDoor
namespace Go.Proofs.YtcfihoniocamaaaGreatDoor
open Go.RowKit Go.Sort Go.Shelf
set_option linter.unusedVariables false

theorem IdxIs.find {p : Fld → Bool} {L : List Fld} {r : Int} (h : IdxIs p L r) : (r = -1 ∧ L.find? p = none) ∨ ∃ i : Nat, r = i ∧ ∃ h : i < L.length, L.find? p = some L[i] := by
  rcases h with ⟨rfl, h⟩ | ⟨i, rfl, hi, h1, h2⟩
  · refine .inl ⟨rfl, List.find?_eq_none.2 fun f hf => ?_⟩
    obtain ⟨j, hj, rfl⟩ := List.getElem_of_mem hf
    simp [h j hj]
  · refine .inr ⟨i, rfl, hi, ?_⟩
    rw [List.find?_eq_some_iff_getElem]
    exact ⟨h1, i, hi, rfl, fun j hj => by simp [h2 j (by omega) hj]⟩

/-- The closure that tells a name, its variable in block g. -/
def isNamed (g : Nat) : Value := .func (.func 81) #[] #[.pointer (some ⟨g, 0, none⟩)]

theorem named (m : List UInt8) (w : World) : Calls Tryz.prog 54 #[.string (S m)] w fun e w' =>
    e = .returned (isNamed w.heap.size) ∧ w'.cell? ⟨w.heap.size, 0, none⟩ = some (.string (S m)) ∧ w.heap.size < w'.heap.size ∧ Below w.heap.size w w' := by
  unfold isNamed
  go_enter Tryz.func54, Tryz.ntmps54
  go_wp2
  go_ret
  exact ⟨rfl, by simp, by simp, by (repeat (first | (with_reducible exact Below.refl _ _) | (with_reducible assumption) | (with_reducible refine Below.drew ?_) | (focus ((with_reducible refine Below.setCell ?_ ?_ _); rotate_left; (first | omega | (simp <;> omega)))) | (focus ((with_reducible refine Below.alloc ?_ ?_ _); rotate_left; (first | omega | (simp <;> omega)))) | exact Below.refl _ _ | assumption | refine Below.drew ?_ | refine Below.alloc ?_ (by first | omega | (simp <;> omega)) _ | refine Below.setCell ?_ (by first | omega | (simp <;> omega)) _))⟩

theorem named1 (f : Fld) (hf : Small f) (g : Nat) (m : List UInt8) (hm : m.length ≤ 4611686018427387903) (w : World) (hc : w.cell? ⟨g, 0, none⟩ = some (.string (S m))) (hg : g < w.heap.size) :
    Calls Tryz.prog 81 #[fv f, .pointer (some ⟨g, 0, none⟩)] w fun e w' => e = .returned (.bool (sameN f.1 m)) ∧ Below w.heap.size w w' := by
  obtain ⟨n, v⟩ := f
  have C := Lib.hid (fun W => textSame n m (by have := hf.1; simp only at this; omega) (by omega) W)
  unfold fv sameN
  simp only
  have hfar := far hg
  obtain ⟨b, hb⟩ : ∃ b, (lower n == lower m) = b := ⟨_, rfl⟩
  rw [hb] at C ⊢
  clear hb hf hm
  go_enter Tryz.func81, Tryz.ntmps81
  go_wp2_with (go_at_call 82; refine (C.out _).mono ?_; rintro e w1 ⟨rfl, hb⟩; have hbw := Below.trans (show Below w.heap.size w _ by (repeat (first | (with_reducible exact Below.refl _ _) | (with_reducible assumption) | (with_reducible refine Below.drew ?_) | (focus ((with_reducible refine Below.setCell ?_ ?_ _); rotate_left; (first | omega | (simp <;> omega)))) | (focus ((with_reducible refine Below.alloc ?_ ?_ _); rotate_left; (first | omega | (simp <;> omega)))) | exact Below.refl _ _ | assumption | refine Below.drew ?_ | refine Below.alloc ?_ (by first | omega | (simp <;> omega)) _ | refine Below.setCell ?_ (by first | omega | (simp <;> omega)) _))) (hb.mono (by (first | omega | (simp <;> omega)))))
  go_ret
  exact ⟨rfl, hbw⟩

/-- Where a row has a name. -/
theorem idxNamed (v : Value) (L : List Fld) (g : Nat) (m : List UInt8) (hm : m.length ≤ 4611686018427387903) (W : World) (hr : ReadsF W v L) (hs : ∀ f ∈ L, Small f) (hc : W.cell? ⟨g, 0, none⟩ = some (.string (S m))) (hg : g < W.heap.size) :
    Calls Tryz.prog 53 #[v, isNamed g] W fun e w' => ∃ r, e = .returned (.int .i64 r) ∧ IdxIs (fun f => sameN f.1 m) L r ∧ Below W.heap.size W w' :=
  idxFld 81 #[.pointer (some ⟨g, 0, none⟩)] (fun f => sameN f.1 m) (enters_of Tryz.func81 (by kernel_rfl) rfl) v L W hr
    (fun f hf W' hb => named1 f (hs f hf) g m hm W' (by rw [hb.cell (p := ⟨g, 0, none⟩) hg]; exact hc) (Nat.lt_of_lt_of_le hg hb.size))


end Go.Proofs.YtcfihoniocamaaaGreatDoor
