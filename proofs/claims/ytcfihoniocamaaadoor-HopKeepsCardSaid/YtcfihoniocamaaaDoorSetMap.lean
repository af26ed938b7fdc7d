/- A set of texts, kept as a map to truths that the call has made. -/
import Derived.Test.YtcfihoniocamaaaDoorStrs
import Derived.Maps.OwnOps
import Derived.Maps.Views
import Derived.StringKeys
namespace Go.Proofs.YtcfihoniocamaaaDoor
open Go Go.RowKit
set_option linter.unusedVariables false

/-- Block b is a map of at most n entries; a text's truth is whether it is among L. -/
def SetIs (W : World) (b n : Nat) (L : List (List UInt8)) : Prop :=
  ∃ D : DataW Unit, W.ownsMap Tryd.prog 9 (plainElem Tryd.prog 4) b n D ∧ Maps.IsMap D ∧ ∀ k, D.atKey (.string k) (.lit (.bool false)) = .lit (.bool (decide (k ∈ L)))
theorem setKeyed : Maps.Keyed Tryd.prog 9 := Maps.string_keyed Tryd.underlying9
theorem SetIs.made (W : World) : SetIs (W.alloc (.map #[] 0)) W.heap.size 0 [] :=
  ⟨_, World.ownsMap_made W _ _ _, Maps.isMap_empty, fun k => by simp [DataW.atKey]⟩
theorem SetIs.kept {W w' : World} {b n : Nat} {L : List (List UInt8)} {row : Option Nat} (h : SetIs W b n L) (hg : W.grownBy w' row) (hne : some b ≠ row) : SetIs w' b n L := by
  obtain ⟨D, h1, h2, h3⟩ := h
  exact ⟨D, h1.kept hg hne, h2, h3⟩
theorem SetIs.lt {W : World} {b n : Nat} {L : List (List UInt8)} (h : SetIs W b n L) : b < W.heap.size := by
  obtain ⟨D, h1, _⟩ := h
  exact h1.lt
theorem SetIs.below {W w' : World} {b n : Nat} {L : List (List UInt8)} (h : SetIs W b n L) (hb : Below W.heap.size W w') : SetIs w' b n L := by
  have hlt := h.lt
  obtain ⟨D, ⟨es, clock, h0, h1⟩, h2, h3⟩ := h
  exact ⟨D, ⟨es, clock, by rw [hb.block b hlt]; exact h0, h1⟩, h2, h3⟩
theorem plain_bool_inv {P : Program} {e : TypeId} (he : P.underlying e = some .bool) {v : Value} {z : DataW Unit × List MemPlace} (h : plainElem (H := Unit) P e v = some z) : ∃ x, v = .bool x ∧ z = (.lit (.bool x), []) := by
  unfold plainElem at h
  rw [he] at h
  cases v <;> simp at h
  exact ⟨_, rfl, h.symm⟩
set_option maxRecDepth 100000 in
/-- 'm[x]'. -/
theorem SetIs.look {W : World} {b n : Nat} {L : List (List UInt8)} (h : SetIs W b n L) (x : List UInt8) (hx : x.length ≤ 9223372036854775807) :
    (Instr.lookup 50 (.map (some b)) (.string (S x)) false).run Tryd.prog W = .ok (.bool (decide (x ∈ L))) W := by
  obtain ⟨D, h1, h2, h3⟩ := h
  obtain ⟨v, ps, hrun, hv⟩ := h1.lookup (t := 50) (e := 4) setKeyed Tryd.underlying50 (z := .bool false) (by kernel_rfl) (plainElem_bool Tryd.underlying4 false) (WideMaps.keyOf_string_mk Tryd.underlying9 (s := S x) (by rw [S_size]; exact hx))
  rw [S_data, h3] at hv
  obtain ⟨y, rfl, hz⟩ := plain_bool_inv Tryd.underlying4 hv
  injection hz with hz1 hz2
  injection hz1 with hz3
  injection hz3 with hz4
  exact hz4 ▸ hrun
set_option maxRecDepth 100000 in
/-- 'm[x] = true' at the operation. -/
theorem wp_set_add {ops : Array Oper} {rest : List Oper} {o : Oper} {a : Act} {Q : Exit → Act → World → Prop} (hg : o.guard = none) (m x v : Operand) (hop : o.op = Op.mapUpdate 50 m x v)
    (W : World) (b n : Nat) (L : List (List UInt8)) (h : SetIs W b n L) (hn : n < 1099511627776) (l : List UInt8) (hl : l.length ≤ 9223372036854775807) (hm : a.eval m = .map (some b)) (hx : a.eval x = .string (S l)) (hv : a.eval v = .bool true)
    (hK : ∀ w', SetIs w' b (n + 1) (L ++ [l]) → W.grownBy w' (some b) → wpList Tryd.prog ops Q rest (a.put o.dst undef) w') : wpList Tryd.prog ops Q (o :: rest) a W := by
  obtain ⟨D, h1, h2, h3⟩ := h
  refine wpList_mapUpdate_own W hg m x v 50 hop 9 4 setKeyed Tryd.underlying50 _ b n D hm h1 (by unfold maxLen; omega) _ _ (.string l) hx hv (by rw [WideMaps.keyOf_string_mk Tryd.underlying9 (s := S l) (by rw [S_size]; exact hl), S_data]) (.lit (.bool true)) [] (plainElem_bool Tryd.underlying4 true) ?_
  intro w' h4 h5
  refine hK w' ⟨_, h4, h2.put _ _, fun k => ?_⟩ h5
  by_cases e : k = l
  · subst e
    rw [Maps.atKey_put_same h2 (by simp [WideAt.IsKeyLit])]
    simp
  · rw [Maps.atKey_put_other (by simpa using e), h3]
    congr 2
    simp [e]
end Go.Proofs.YtcfihoniocamaaaDoor
