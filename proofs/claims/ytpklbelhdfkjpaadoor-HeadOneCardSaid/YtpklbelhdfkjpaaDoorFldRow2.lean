/- Rows of fields in a region that draws its order: append as a step. -/
import Derived.Test.YtpklbelhdfkjpaaDoorTableAdd
import Derived.Laws.AppendOwnNone
namespace Go.Proofs.YtpklbelhdfkjpaaDoor
open Go.RowKit Go.Sort Go.Shelf
set_option linter.unusedVariables false

theorem OwnsF.empty_at {W : World} {B b : Nat} (h : W.heap[b]? = some (.cells #[] 33 (0, 0))) (hB : B ≤ b) : OwnsF W B (.slice (some ⟨b, 0, none⟩) 0 0) [] :=
  ⟨rfl, .inr ⟨b, 0, #[], rfl, hB, h, Nat.le_refl _, by decide, rfl, rfl⟩⟩
theorem reads_one {W : World} {g : Nat} {n x : List UInt8} (hg : g < W.heap.size) (h0 : W.cell? ⟨g, 0, none⟩ = some (.string (S n))) (h1 : W.cell? ⟨g, 1, none⟩ = some (.string (S x))) : ReadsF W (.slice (some ⟨g, 0, none⟩) 1 1) [(n, x)] :=
  ⟨_, 1, rfl, Nat.le_refl _, by decide, (fun h => by cases h), fun _ => ⟨g, 0, rfl, hg, fun j hj => by
    obtain rfl : j = 0 := by simp at hj; omega
    exact ⟨h0, h1⟩⟩⟩
/-- 'append(out, l...)' as a step of a region that draws, out the call's own. -/
theorem step_append_row {ops : Array Oper} {o : Oper} {a : Act} {K : Act → World → Prop} {Q : Exit → Act → World → Prop} {E : Prop} (hgd : o.guard = none) (s x : Operand)
    (ho : o.op = .call { callee := .builtin .append, args := #[s, x], argTypes := #[22, 22] })
    (W : World) (B : Nat) (v : Value) (L0 : List Fld) (hown : OwnsF W B v L0) (hs : a.eval s = v) (ao : Option Addr) (cap : Nat) (L : List Fld) (hr : ReadsF W (.slice ao L.length cap) L) (hx : a.eval x = .slice ao L.length cap)
    (hn : L0.length + L.length ≤ 2199023255552) (hB : B ≤ W.heap.size)
    (h : ∀ v' w', OwnsF w' B v' (L0 ++ L) → W.grownBy w' v.ownBlock → K (a.put o.dst v') w') : if Region.wanted o (yielded ops a.tmps) = true then Oper.wp Tryd.prog o a W K Q else E := by
  have hw : Region.wanted o (yielded ops a.tmps) = true := by simp [Region.wanted, hgd]
  rw [if_pos hw]
  obtain ⟨i0, hi, hz0, hz1, hz2⟩ := info_parts infoFld
  have hcells := clipCells hr
  obtain ⟨ao', cap', e1, e2, e3, e4, e5⟩ := hr
  injection e1 with e6 e7 e8
  subst e6
  subst e8
  have hown' : W.ownsRow B 33 2 v L0.length (L0.flatMap fcells) := hown
  cases ao with
  | none =>
    have hc0 := e4 rfl
    have hz : L.length = 0 := by omega
    obtain rfl : L = [] := List.length_eq_zero_iff.1 hz
    subst hc0
    have hrun := run_append_owned_none (P := Tryd.prog) (w := W) B 22 o.type 33 i0 2 Tryd.underlying22 hi v L0.length _ hown'
    unfold Oper.wp
    simp [execOp, ho, resolve, invoke, builtin, hs, hx, hrun, Result.andThen]
    exact h _ _ (by rw [List.append_nil]; exact hown) ⟨rfl, rfl, rfl, Nat.le_refl _, fun _ _ _ => rfl⟩
  | some ad =>
    obtain ⟨v', w', hrun, r1, r2, _⟩ := run_append_own (P := Tryd.prog) W B 22 o.type 33 i0 (.agg #[.string ⟨#[]⟩, .string ⟨#[]⟩]) 2 32 Tryd.underlying22 hi hz0 hz1 hz2 rfl (by decide) v L0.length _ hown' ad L.length cap (L.flatMap fcells) (flat_len L) (hcells ad rfl) (flat_one L) (by unfold maxLen; omega) (by omega) hB
    unfold Oper.wp
    simp [execOp, ho, resolve, invoke, builtin, hs, hx, hrun, Result.andThen]
    exact h _ _ (by unfold OwnsF; simpa using r1) r2
end Go.Proofs.YtpklbelhdfkjpaaDoor
