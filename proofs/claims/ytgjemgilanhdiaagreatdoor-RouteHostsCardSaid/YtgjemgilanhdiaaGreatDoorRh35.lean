/- Rows of routes: append as a step of a region that draws; a row's end. -/
import Derived.Test.YtgjemgilanhdiaaGreatDoorRh33
import Derived.Test.YtgjemgilanhdiaaGreatDoorRh34
import Derived.Test.YtgjemgilanhdiaaGreatDoorRh25
import Derived.Laws.AppendOwnNone
namespace Go.Proofs.YtgjemgilanhdiaaGreatDoor
open Go.RowKit Go.Sort Go.Shelf
set_option linter.unusedVariables false
set_option linter.unusedSimpArgs false

theorem ReadsW.drop {W : World} {b : Addr} {cap : Nat} {L : List Wrd} (h : ReadsW W (.slice (some b) L.length cap) L) {q : Nat} (hq : q ≤ L.length) : ReadsW W (.slice (some ⟨b.block, b.off + q * 3, none⟩) (L.length - q) (cap - q)) (L.drop q) := by
  obtain ⟨ao', cap', e1, e2, e3, e4, e5⟩ := h
  injection e1 with e6 e7 e8
  subst e6
  subst e8
  have hl : (L.drop q).length = L.length - q := by simp
  refine ⟨_, cap - q, by rw [hl], by omega, by omega, (fun h => by cases h), fun h0 => ?_⟩
  obtain ⟨b', off, f1, f2, f3⟩ := e5 (by omega)
  injection f1 with f1
  subst f1
  refine ⟨b', off + q * 3, rfl, f2, fun j hj => ?_⟩
  have := f3 (q + j) (by omega)
  rw [List.getElem_drop, show off + q * 3 + j * 3 = off + (q + j) * 3 by omega]
  exact this
theorem OwnsW.empty_at {W : World} {B b : Nat} (h : W.heap[b]? = some (.cells #[] 43 (0, 0))) (hB : B ≤ b) : OwnsW W B (.slice (some ⟨b, 0, none⟩) 0 0) [] :=
  ⟨rfl, .inr ⟨b, 0, #[], rfl, hB, h, Nat.le_refl _, by decide, rfl, rfl⟩⟩
theorem new_cells (W : World) : ((W.alloc (.cells #[] 43)).drew).heap[W.heap.size]? = some (.cells #[] 43 (0, 0)) := by
  show (W.heap.push _)[W.heap.size]? = _
  rw [Array.getElem?_push_size]
/-- 'append(out, l...)' as a step of a region that draws, out the call's own. -/
theorem step_append_wrow {ops : Array Oper} {o : Oper} {a : Act} {K : Act → World → Prop} {Q : Exit → Act → World → Prop} {E : Prop} (hgd : o.guard = none) (s x : Operand)
    (ho : o.op = .call { callee := .builtin .append, args := #[s, x], argTypes := #[22, 22] })
    (W : World) (B : Nat) (v : Value) (L0 : List Wrd) (hown : OwnsW W B v L0) (hs : a.eval s = v) (ao : Option Addr) (ln cap : Nat) (L : List Wrd) (hr : ReadsW W (.slice ao ln cap) L) (hx : a.eval x = .slice ao ln cap)
    (hn : L0.length + L.length ≤ 1099511627776) (hB : B ≤ W.heap.size)
    (h : ∀ v' w', OwnsW w' B v' (L0 ++ L) → W.grownBy w' v.ownBlock → K (a.put o.dst v') w') : if Region.wanted o (yielded ops a.tmps) = true then Oper.wp Tryz.prog o a W K Q else E := by
  have hw : Region.wanted o (yielded ops a.tmps) = true := by simp [Region.wanted, hgd]
  rw [if_pos hw]
  obtain ⟨i0, hi, hz0, hz1, hz2⟩ := info_parts infoWrd
  obtain rfl : ln = L.length := by obtain ⟨_, _, e1, _⟩ := hr; injection e1
  have hcells := wclipCells hr
  obtain ⟨ao', cap', e1, e2, e3, e4, e5⟩ := hr
  injection e1 with e6 e7 e8
  subst e6
  subst e8
  have hown' : W.ownsRow B 43 3 v L0.length (L0.flatMap wcells) := hown
  cases ao with
  | none =>
    have hc0 := e4 rfl
    have hz : L.length = 0 := by omega
    obtain rfl : L = [] := List.length_eq_zero_iff.1 hz
    subst hc0
    have hrun := run_append_owned_none (P := Tryz.prog) (w := W) B 22 o.type 43 i0 3 Tryz.underlying22 hi v L0.length _ hown'
    unfold Oper.wp
    simp [execOp, ho, Go.resolve, Go.invoke, Go.builtin, hs, hx, hrun, Result.andThen]
    exact h _ _ (by rw [List.append_nil]; exact hown) ⟨rfl, rfl, rfl, Nat.le_refl _, fun _ _ _ => rfl⟩
  | some ad =>
    obtain ⟨v', w', hrun, r1, r2, _⟩ := run_append_own (P := Tryz.prog) W B 22 o.type 43 i0 (.agg #[.string ⟨#[]⟩, .string ⟨#[]⟩, .string ⟨#[]⟩]) 3 48 Tryz.underlying22 hi hz0 hz1 hz2 rfl (by decide) v L0.length _ hown' ad L.length cap (L.flatMap wcells) (wflat_len L) (hcells ad rfl) (wflat_one L) (by unfold maxLen; omega) (by omega) hB
    unfold Oper.wp
    simp [execOp, ho, Go.resolve, Go.invoke, Go.builtin, hs, hx, hrun, Result.andThen]
    exact h _ _ (by unfold OwnsW; simpa using r1) r2

theorem ReadsW.take' {W : World} {ao : Option Addr} {cap : Nat} {L : List Wrd} (h : ReadsW W (.slice ao L.length cap) L) {q : Nat} (hq : q ≤ L.length) : ReadsW W (.slice ao q cap) (L.take q) := by
  have := h.take hq
  rwa [show (L.take q).length = q by simp; omega] at this
/-- The law's known row. -/
def aliveRt : List Wrd := [([], [47], [97]), ([], [47, 120], [98])]
theorem alive_find : findR aliveRt [104] [47, 120, 121] = ([98], 0) := by kernel_rfl
theorem alive_reads (W : World) : ReadsW (W.alloc (.cells #[.string (S []), .string (S [47]), .string (S [97]), .string (S []), .string (S [47, 120]), .string (S [98])] 43)) (.slice (some ⟨W.heap.size, 0, none⟩) 2 2) aliveRt :=
  ⟨_, 2, rfl, Nat.le_refl _, by decide, (fun h => by cases h), fun _ => ⟨_, 0, rfl, by simp, fun j hj => by
    have h2 : j < 2 := hj
    rw [World.cell?_alloc_new, World.cell?_alloc_new, World.cell?_alloc_new]
    match j, h2 with
    | 0, _ | 1, _ => exact ⟨rfl, rfl, rfl⟩⟩⟩
set_option maxHeartbeats 800000 in
set_option maxRecDepth 100000 in
theorem alive (w : World) (hL : Laid w) : Calls Tryz.prog 11 #[] w fun e w' => e = .returned (.bool true) ∧ Below w.heap.size w w' := by
  have F := Lib.hid (fun (W : World) (hb : Below w.heap.size w W) (hr : ReadsW W (.slice (some ⟨w.heap.size, 0, none⟩) 2 2) aliveRt) => routeFind _ aliveRt [104] [47, 120, 121] W hr (by decide) (by decide) (hL.on hb))
  rw [alive_find] at F
  have A := Lib.hid (alive_reads w)
  clear hL
  go_enter Tryz.func11, Tryz.ntmps11
  go_wp2_with (go_at_call 6; (with_reducible refine Calls.mono (F.out _ ?_ A.out) ?_); (focus (repeat (first | (with_reducible exact Below.refl _ _) | (with_reducible assumption) | (with_reducible refine Below.drew ?_) | (focus ((with_reducible refine Below.setCell ?_ ?_ _); rotate_left; (first | omega | (simp <;> omega)))) | (focus ((with_reducible refine Below.alloc ?_ ?_ _); rotate_left; (first | omega | (simp <;> omega)))) | exact Below.refl _ _ | assumption | refine Below.drew ?_ | refine Below.alloc ?_ (by first | omega | (simp <;> omega)) _ | refine Below.setCell ?_ (by first | omega | (simp <;> omega)) _))); rintro e w1 ⟨rfl, hb1⟩; have HB1 := Lib.hid (Below.trans (show Below w.heap.size w _ by (repeat (first | (with_reducible exact Below.refl _ _) | (with_reducible assumption) | (with_reducible refine Below.drew ?_) | (focus ((with_reducible refine Below.setCell ?_ ?_ _); rotate_left; (first | omega | (simp <;> omega)))) | (focus ((with_reducible refine Below.alloc ?_ ?_ _); rotate_left; (first | omega | (simp <;> omega)))) | exact Below.refl _ _ | assumption | refine Below.drew ?_ | refine Below.alloc ?_ (by first | omega | (simp <;> omega)) _ | refine Below.setCell ?_ (by first | omega | (simp <;> omega)) _))) (hb1.mono (by simp))); clear hb1)
  go_ret
  exact ⟨rfl, HB1.out⟩
end Go.Proofs.YtgjemgilanhdiaaGreatDoor
