/- Rows of bytes that a call has built: append of one byte; turned to a text. -/
import Derived.Test.YtngaofoedkankaaDoorStrs
import Derived.Laws.AppendOwn
import Derived.Laws.IdiomStrings
import Derived.Lib.BufferRead
import Derived.Lib.AppendIntMem
namespace Go.Proofs.YtngaofoedkankaaDoor
open Go.RowKit
set_option linter.unusedVariables false

theorem infoU8 : (Tryd.prog.info? 5).map (fun i => (i.zero, i.size, i.bytes)) = some (some (.int .u8 0), 1, 1) := by kernel_rfl
def bcells (l : List UInt8) : List Value := l.map fun c => Value.int .u8 (c.toNat : Int)
/-- The slice v, made by the call (its block is B or later), holds these bytes. -/
def OwnsB (W : World) (B : Nat) (v : Value) (l : List UInt8) : Prop := W.ownsRow B 5 1 v l.length (bcells l)
theorem OwnsB.nil (W : World) (B : Nat) : OwnsB W B (.slice none 0 0) [] := World.ownsRow_nil _ _ _ _
theorem OwnsB.below {W W' : World} {B : Nat} {v : Value} {l : List UInt8} (h : OwnsB W B v l) (hb : Below W.heap.size W W') : OwnsB W' B v l := by
  obtain ⟨h1, h2⟩ := h
  refine ⟨h1, ?_⟩
  rcases h2 with h2 | ⟨g, cap, cur, h3, h4, h5, h6⟩
  · exact .inl h2
  · refine .inr ⟨g, cap, cur, h3, h4, ?_, h6⟩
    have hg : g < W.heap.size := by
      rcases Nat.lt_or_ge g W.heap.size with h | h
      · exact h
      · rw [Array.getElem?_eq_none h] at h5; cases h5
    rw [hb.block g hg]
    exact h5
/-- As a text. -/
theorem OwnsB.text {W : World} {B : Nat} {v : Value} {l : List UInt8} (h : OwnsB W B v l) : (convert 32 9 v).run Tryd.prog W = .ok (.string (S l)) W := by
  obtain ⟨h1, h2⟩ := h
  rcases h2 with ⟨h2, h3⟩ | ⟨g, cap, cur, h3, h4, h5, h6, h7, h8, h9⟩
  · obtain rfl : l = [] := List.length_eq_zero_iff.1 h3
    rw [h2]
    exact Lib.run_convert_nil_bytes (P := Tryd.prog) W 32 9 5 0 Tryd.underlying32 Tryd.underlying5 Tryd.underlying9
  · rw [h3]
    refine run_convert_bytes_back (P := Tryd.prog) W 32 9 5 ⟨g, 0, none⟩ cap l Tryd.underlying32 Tryd.underlying5 Tryd.underlying9 (fun j hj => ?_)
    rw [Lib.add_plain, Nat.zero_add, Joins.cell_of_block h5]
    have e := congrArg (fun l => l[j]?) h9
    simp only [List.getElem?_take] at e
    rw [if_pos (by omega)] at e
    simp only [Array.getElem?_toList] at e
    rw [e]
    simp [bcells, hj]
/-- 'out = append(out, c)', c one byte, just laid. -/
theorem wp_append_byte {ops : Array Oper} {rest : List Oper} {o : Oper} {a : Act} {Q : Exit → Act → World → Prop} (hgd : o.guard = none) (s x : Operand)
    (ho : o.op = .call { callee := .builtin .append, args := #[s, x], argTypes := #[32, 32] })
    (W : World) (B : Nat) (v : Value) (l : List UInt8) (c : UInt8) (z : Int) (hz : (c.toNat : Int) = z) (hown : OwnsB W B v l) (hs : a.eval s = v) (g : Nat) (hx : a.eval x = .slice (some ⟨g, 0, none⟩) 1 1) (hg : g = W.heap.size)
    (hn : l.length ≤ 4398046511104) (hB : B ≤ W.heap.size)
    (h : ∀ v' w', OwnsB w' B v' (l ++ [c]) → Below B W w' → wpList Tryd.prog ops Q rest (a.put o.dst v') w') : wpList Tryd.prog ops Q (o :: rest) a (W.alloc (.cells #[.int .u8 z] 5)) := by
  subst hg
  subst hz
  obtain ⟨i0, hi, hz0, hz1, hz2⟩ := info_parts infoU8
  have hown' : (W.alloc (.cells #[.int .u8 (c.toNat : Int)] 5)).ownsRow B 5 1 v l.length (bcells l) := World.ownsRow.alloc hown _
  refine wpList_append_own _ hgd s x 32 ho B 5 i0 (.int .u8 0) 1 1 Tryd.underlying32 hi hz0 hz1 hz2 rfl (by decide) v l.length _ hs hown' ⟨W.heap.size, 0, none⟩ 1 1 [.int .u8 (c.toNat : Int)] hx rfl ?_ ?_ ?_ ?_ ?_ ?_
  · intro j u hj
    match j, hj with
    | 0, hj => simp at hj; subst hj; simp [Addr.add]
  · intro u hu; simp at hu; subst hu; rfl
  · unfold maxLen; omega
  · omega
  · simp; omega
  · intro v' w' h1 h2 h3
    refine h v' w' (by unfold OwnsB bcells at *; simpa using h1) ?_
    refine Below.grown (w := W.alloc (.cells #[.int .u8 (c.toNat : Int)] 5)) ((Below.refl _ _).alloc hB _) h2 (by simp; omega) ?_
    intro k hk
    exact (World.ownsRow.lt hown' k hk).1
end Go.Proofs.YtngaofoedkankaaDoor
