/- Texts as lists of bytes: what the walk makes of them. -/
import Derived.Test.YtngaofoedkankaaDoorBase
import Derived.Lib.SmallJoins
namespace Go.Proofs.YtngaofoedkankaaDoor
open Go.RowKit

/-- A text of these bytes. -/
def S (l : List UInt8) : ByteArray := ⟨l.toArray⟩

theorem S_of (s : ByteArray) : ∃ l, s = S l := ⟨s.data.toList, by unfold S; cases s; simp⟩
@[go_sem] theorem S_size (l : List UInt8) : (S l).size = l.length := by simp [S, ByteArray.size]
@[go_sem] theorem S_data (l : List UInt8) : (S l).data.toList = l := by simp [S]
@[go_sem] theorem S_toList (l : List UInt8) : (S l).toList = l := by rw [ByteArray.toList_eq]; exact S_data l
@[go_sem] theorem S_extract (l : List UInt8) (a b : Nat) : (S l).extract a b = S ((l.take b).drop a) := by
  apply ByteArray.ext
  rw [ByteArray.data_extract]
  simp [S, List.extract_eq_take_drop]
  rw [List.drop_take]
@[go_sem] theorem S_append (a b : List UInt8) : S a ++ S b = S (a ++ b) := by
  unfold S
  rw [ByteArray.mk_append_mk]; try simp
theorem S_inj {a b : List UInt8} (h : S a = S b) : a = b := by have := congrArg (fun s => s.data.toList) h; simpa [S] using this
theorem S_eq {a b : List UInt8} (h : a = b) : S a = S b := by rw [h]

/-- Byte number k, as a number. -/
def bAt (l : List UInt8) (k : Nat) : Int := ((l.getD k 0).toNat : Int)
theorem bAt_lo (l : List UInt8) (k : Nat) : 0 ≤ bAt l k := by unfold bAt; omega
theorem bAt_hi (l : List UInt8) (k : Nat) : bAt l k ≤ 255 := by unfold bAt; have := (l.getD k 0).toNat_lt; omega
theorem bAt_eq {l : List UInt8} {k : Nat} (h : k < l.length) : bAt l k = (l[k].toNat : Int) := by unfold bAt; simp [List.getD, List.getElem?_eq_getElem h]

@[go_sem] theorem mk_S (l : List UInt8) : (⟨l.toArray⟩ : ByteArray) = S l := rfl
@[go_sem] theorem empty_S : ByteArray.empty = S [] := rfl
@[go_sem] theorem S_get_toNat (l : List UInt8) (i : Nat) (h : i < (S l).size) : (((S l)[i]'h).toNat : Int) = bAt l i := by
  rw [bAt_eq (by rw [S_size] at h; exact h)]
  rfl

theorem run_index_S {P : Program} (w : World) (t : TypeId) (l : List UInt8) (k : IntKind) (i : Int) (h : P.underlying t = some .string) (h0 : 0 ≤ i) (h1 : i < l.length) :
    (Instr.index t (.string (S l)) (.int k i)).run P w = .ok (.int .u8 (bAt l i.toNat)) w := by
  have h2 : i.toNat < l.length := by omega
  have h3 : i.toNat < (S l).size := by rw [S_size]; exact h2
  rw [run_index_string w t (S l) k i h]
  rw [dif_pos ⟨h0, by rw [S_size]; exact h1⟩]
  congr 2
  rw [bAt_eq h2]
  rfl
/-- A text's length: for a loop's measure. -/
def strLen : Value → Nat | .string s => s.size | _ => 0
theorem strLen_S (l : List UInt8) : strLen (.string (S l)) = l.length := by simp [strLen, S_size]
end Go.Proofs.YtngaofoedkankaaDoor
