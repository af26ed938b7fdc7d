/- strings.Builder: WriteString, Len, String: the library's contracts at this program. (The laying tool finds no number for two types that the structure lists and no body names: laid by hand.) -/
import Derived.Test.YtenflcaalckdfaaDoorVr4
import Derived.Shelf.Strings.Builder1
namespace Go.Proofs.YtenflcaalckdfaaDoor
open Go.RowKit Go.Shelf
set_option linter.unusedVariables false

def bren : Go.Shelf.Ren := ⟨fun | 166 => 16 | 240 => 29 | 276 => 55 | n => n,
  fun | 0 => 0 | 3 => 3 | 4 => 4 | 5 => 5 | 9 => 9 | 20 => 20 | 37 => 41 | 70 => 40 | 72 => 43 | 75 => 46 | 80 => 49 | 24 => 47 | 164 => 79 | n => n, fun n => n⟩
theorem blay166 : Go.Proofs.Lays.n166 Tryd.prog bren := {
  mixed := by kernel_rfl
  f166 := Tryd.func16.trans (congrArg some (by kernel_rfl))
  f240 := Tryd.func29.trans (congrArg some (by kernel_rfl))
  f276 := Tryd.func55.trans (congrArg some (by kernel_rfl))
  t0 := Tryd.underlying0
  a0 := Tryd.isAgg0
  z0 := Tryd.sizeOf0
  v0 := Tryd.zeroValue0
  t3 := Tryd.underlying3
  a3 := Tryd.isAgg3
  z3 := Tryd.sizeOf3
  v3 := Tryd.zeroValue3
  t4 := Tryd.underlying4
  a4 := Tryd.isAgg4
  z4 := Tryd.sizeOf4
  v4 := Tryd.zeroValue4
  t9 := Tryd.underlying9
  a9 := Tryd.isAgg9
  z9 := Tryd.sizeOf9
  v9 := Tryd.zeroValue9
  t20 := Tryd.underlying20
  a20 := Tryd.isAgg20
  z20 := Tryd.sizeOf20
  v20 := Tryd.zeroValue20
  t37 := Tryd.underlying41
  a37 := Tryd.isAgg41
  z37 := Tryd.sizeOf41
  v37 := Tryd.zeroValue41
  t70 := Tryd.underlying40
  a70 := Tryd.isAgg40
  z70 := Tryd.sizeOf40
  v70 := Tryd.zeroValue40
  t72 := Tryd.underlying43
  a72 := Tryd.isAgg43
  z72 := Tryd.sizeOf43
  v72 := Tryd.zeroValue43
  t75 := Tryd.underlying46
  a75 := Tryd.isAgg46
  z75 := Tryd.sizeOf46
  v75 := Tryd.zeroValue46
  t164 := Tryd.underlying79
  a164 := Tryd.isAgg79
  z164 := Tryd.sizeOf79
  v164 := Tryd.zeroValue79 }
theorem bextra : Builder.Extra Tryd.prog bren := {
  sizeBuilder := by kernel_rfl
  liesBuilder := by kernel_rfl
  t5 := Tryd.underlying5
  a5 := Tryd.isAgg5
  z5 := Tryd.sizeOf5
  v5 := Tryd.zeroValue5
  infoByte := by kernel_rfl
  cellsByte := by kernel_rfl
  sizeByte := by kernel_rfl
  neB5 := by decide }
/-- The builder in block b holds these bytes. -/
def Holds (W : World) (b : Nat) (l : List UInt8) : Prop := Lib.IsBuilder 43 5 b b (Lib.byteCells l) W
theorem Holds.fresh (W : World) : Holds (W.alloc (.cells #[.pointer none, .slice none 0 0] 43)) W.heap.size [] := Lib.fresh_isBuilder _ _ W
theorem Holds.alloc {W : World} {b : Nat} {l : List UInt8} (h : Holds W b l) (o : Obj) : Holds (W.alloc o) b l := by
  have key : ∀ p, Lib.BuilderAt 43 5 b b p (Lib.byteCells l) W → Lib.BuilderAt 43 5 b b p (Lib.byteCells l) (W.alloc o) := by
    rintro p ⟨h1, v, h2, h3, h4⟩
    exact ⟨h1, v, (Lib.alloc_old W o b (Array.getElem?_eq_some_iff.1 h2).1).trans h2, World.ownsRow.alloc h3 o, h4⟩
  exact h.elim (fun x => .inl (key _ x)) (fun x => .inr (key _ x))
theorem Holds.lt {W : World} {b : Nat} {l : List UInt8} (h : Holds W b l) : b < W.heap.size := h.elim Lib.BuilderAt.lt Lib.BuilderAt.lt
theorem cells_app (a b : List UInt8) : Lib.byteCells a ++ Lib.strCells (S b) = Lib.byteCells (a ++ b) := by
  unfold Lib.strCells Lib.byteCells
  simp [S_data]
theorem byteCells_len (a : List UInt8) : (Lib.byteCells a).length = a.length := by unfold Lib.byteCells; simp
theorem writeString_c {b : Nat} {l t : List UInt8} (W : World) (h : Holds W b l) (hlen : l.length + t.length ≤ 1000000) (n : Int) (hn : n = t.length) :
    Calls Tryd.prog 16 #[.pointer (some ⟨b, 0, none⟩), .string (S t)] W fun e w' => e = .returned (.tuple #[.int .i64 n, .nilIface]) ∧ Holds w' b (l ++ t) ∧ Below b W w' :=
  (Any.Builder_WriteString blay166 bextra b b (Lib.byteCells l) (S t) W h (by rw [byteCells_len, S_size]; omega) (Nat.le_of_lt h.lt)).mono fun e w' ⟨h1, h2, h3⟩ => ⟨by rw [h1, S_size, hn], .inr (by rw [← cells_app]; exact h2), h3⟩
theorem builderString_c {b : Nat} {l : List UInt8} (W : World) (h : Holds W b l) :
    Calls Tryd.prog 17 #[.pointer (some ⟨b, 0, none⟩)] W fun e w' => e = .returned (.string (S l)) ∧ Below b W w' :=
  Tryd.Builder_String_any b b l W h (Nat.le_of_lt h.lt)
end Go.Proofs.YtenflcaalckdfaaDoor
